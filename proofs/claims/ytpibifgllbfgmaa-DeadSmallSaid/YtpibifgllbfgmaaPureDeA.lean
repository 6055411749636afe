/-
What the dead laws need, plainly: which codes are good, what comes behind a place, which places can be come to. Conditions: as each theorem states them.
-/
import Derived.Test.YtpibifgllbfgmaaPDeadOfx3
import Derived.Test.YtpibifgllbfgmaaPDeadOfx6
import Derived.Test.YtpibifgllbfgmaaPDeadOfx7
import Derived.Test.YtpibifgllbfgmaaKit
import Derived.WalkKit
import Derived.ProofKit
set_option linter.unusedSimpArgs false
set_option linter.unusedVariables false
namespace Go.Proofs.Ytpibifgllbfgmaa.Pure
open Go.RowKit Go.Proofs.YtpibifgllbfgmaaW.PrintWords Go.Proofs.YtpibifgllbfgmaaW.PrintLast Go.Proofs.YtpibifgllbfgmaaW.PrintMore Go.Proofs.Ytpibifgllbfgmaa.Kit
open Go.Proofs.Ytpibifgllbfgmaa.PDeadOf
attribute [local go_sem] max2_int min2_int max_two min_two max_three min_three max_four min_four   -- for this text's walks alone
theorem op_cases {P : Int → Prop} (o : Int) (h : ∀ n : Int, n = 0 ∨ n = 1 ∨ n = 2 ∨ n = 3 ∨ n = 4 ∨ n = 5 ∨ n = 6 ∨ n = 7 ∨ n = 8 ∨ n = 9 ∨ n = 10 ∨ n = 11 ∨ n = 12 ∨ n = 13 → P n)
    (hx : o ≠ 0 → o ≠ 1 → o ≠ 2 → o ≠ 3 → o ≠ 4 → o ≠ 5 → o ≠ 6 → o ≠ 7 → o ≠ 8 → o ≠ 9 → o ≠ 10 → o ≠ 11 → o ≠ 12 → o ≠ 13 → P o) : P o := by
  by_cases hr : 0 ≤ o ∧ o ≤ 13
  · exact h o (by omega)
  · exact hx (by omega) (by omega) (by omega) (by omega) (by omega) (by omega) (by omega) (by omega) (by omega) (by omega) (by omega) (by omega) (by omega) (by omega)
theorem ev4 {α : Type} {g : Nat → Option α} {r : α} (m : Nat) (h : ∀ k, g (k + m) = some r) : Ev g r :=
  ⟨m, fun k hk => by obtain ⟨j, rfl⟩ : ∃ j, k = j + m := ⟨k - m, by omega⟩; exact h j⟩
def usesS (o a b c : Int) : List Int :=
  if o = 1 ∨ o = 7 ∨ o = 10 ∨ o = 12 then [a] else if o = 2 then [a, b] else if o = 3 then [a, b, c] else if o = 4 then (if a ≥ 0 then [a] else []) else if o = 5 then (if a ≥ 0 then [a, b] else [b]) else []
theorem uses_is (k : Nat) (o d t a b c v g : Int) : code_Uses.f (k + 1) o d t a b c v g = some (usesS o a b c) := by
  refine op_cases (P := fun o => code_Uses.f (k + 1) o d t a b c v g = some (usesS o a b c)) o (fun n hn => ?_) (fun h0 h1 h2 h3 h4 h5 h6 h7 h8 h9 h10 h11 h12 h13 => ?_)
  · rcases hn with rfl | rfl | rfl | rfl | rfl | rfl | rfl | rfl | rfl | rfl | rfl | rfl | rfl | rfl <;> simp [code_Uses.f, code_Uses.j0, usesS] <;> split <;> rfl
  · simp [code_Uses.f, code_Uses.j0, usesS, h1, h2, h3, h4, h5, h7, h10, h12]
theorem uses_ev (o d t a b c v g : Int) : Ev (fun k => code_Uses.f k o d t a b c v g) (usesS o a b c) := ev4 1 (fun k => uses_is k ..)
theorem defines_is (o d t a b c v g : Int) : code_Defines.f o d t a b c v g = some (if o = 0 ∨ o = 1 ∨ o = 2 ∨ o = 3 ∨ o = 4 then (t, true) else (0, false)) := by
  unfold code_Defines.f
  by_cases h0 : o = 0
  · simp [h0]
  by_cases h1 : o = 1
  · simp [h1]
  by_cases h2 : o = 2
  · simp [h2]
  by_cases h3 : o = 3
  · simp [h3]
  by_cases h4 : o = 4
  · simp [h4]
  simp [h0, h1, h2, h3, h4]
theorem tight_is (d : Int) : ∃ n, word_Tight.f d = some n ∧ (n = 0 ↔ ¬ (0 ≤ d ∧ d ≤ 9)) := by
  by_cases h : 0 ≤ d ∧ d ≤ 9
  · have hk : ∀ n : Nat, n < 10 → ∃ m : Int, word_Tight.f (n : Int) = some m ∧ m ≠ 0 := by
      intro n hn
      have : n = 0 ∨ n = 1 ∨ n = 2 ∨ n = 3 ∨ n = 4 ∨ n = 5 ∨ n = 6 ∨ n = 7 ∨ n = 8 ∨ n = 9 := by omega
      rcases this with rfl | rfl | rfl | rfl | rfl | rfl | rfl | rfl | rfl | rfl <;> exact ⟨_, rfl, by decide⟩
    obtain ⟨n, rfl⟩ := Int.eq_ofNat_of_zero_le h.1
    obtain ⟨m, hm, h0⟩ := hk n (by omega)
    exact ⟨m, hm, by simp [h0]; omega⟩
  · refine ⟨0, ?_, by simp [h]⟩
    unfold word_Tight.f
    simp only [Option.bind_some]
    by_cases h1 : d < 0
    · rw [if_pos h1]
    · rw [if_neg h1, if_pos (by simp; omega)]
theorem uses_len (o a b c : Int) : (usesS o a b c).length ≤ 3 := by
  unfold usesS
  repeat' split
  all_goals simp
theorem rdT_at (xs : List S31) (i : Nat) (h : i < xs.length) : rd_T31 xs (i : Int) = xs[i] := by
  simp [rd_T31, List.getD_eq_getElem?_getD, List.getElem?_eq_getElem h]
theorem nxt (i : Nat) (h : i ≤ 9223372036854775806) : wrap64 ((i : Int) + 1) = ((i + 1 : Nat) : Int) := by rw [wrap_in (by omega) (by omega)]; rfl
def U16 (us : List Int) : Bool := us.all fun u => decide (0 ≤ u ∧ u ≤ 65535)
/-- A code good among n codes: its operation and operator are some, its target among them, its values below 65536. -/
def gcS (n : Nat) (o d t a b c g : Int) : Prop :=
  0 ≤ o ∧ o ≤ 13 ∧ (o = 2 → 0 ≤ d ∧ d ≤ 9) ∧ (o = 6 ∨ o = 7 → 0 ≤ g ∧ g < n) ∧ (o = 0 ∨ o = 1 ∨ o = 2 ∨ o = 3 ∨ o = 4 → 0 ≤ t ∧ t ≤ 65535) ∧ U16 (usesS o a b c) = true
instance (n : Nat) (o d t a b c g : Int) : Decidable (gcS n o d t a b c g) := by unfold gcS; infer_instance
def gcX (n : Nat) (x : S31) : Prop := gcS n x.f0 x.f1 x.f2 x.f3 x.f4 x.f5 x.f7
instance (n : Nat) (x : S31) : Decidable (gcX n x) := by unfold gcX; infer_instance
def lastS (l : List S31) : Int := (rd_T31 l ((l.length : Int) - 1)).f0
def goodS (l : List S31) : Prop := l.length ≠ 0 ∧ l.length ≤ 4096 ∧ (lastS l = 13 ∨ lastS l = 6) ∧ ∀ x ∈ l, gcX l.length x
instance (l : List S31) : Decidable (goodS l) := by unfold goodS; infer_instance
theorem jumps_is (o d t a b c v g : Int) : code_Jumps.f o d t a b c v g = some (if o = 6 then (true, false) else if o = 7 then (true, true) else (false, o != 13)) := by
  unfold code_Jumps.f
  by_cases h : o = 6
  · rw [if_pos h, if_pos h]
  · rw [if_neg h, if_neg h]
    by_cases h2 : o = 7
    · rw [if_pos h2, if_pos h2]
    · rw [if_neg h2, if_neg h2]
theorem and_dec {p q : Prop} [Decidable p] [Decidable q] : (decide p && decide q) = decide (p ∧ q) := by
  by_cases hp : p <;> by_cases hq : q <;> simp [hp, hq]
theorem good_l1 (x0 x33 : List S31) (x34 i : Int) (us : List Int) (hl : us.length ≤ 3) (r : Bool) (hr : Ev (fun k => code_Good.l0 k x0 x33 x34 (wrap64 (i + 1))) r) :
    ∀ (m j : Nat), j + m = us.length → Ev (fun k => code_Good.l1 k x0 x33 x34 i us (us.length : Int) (j : Int)) (U16 (us.drop j) && r) := by
  intro m
  induction m with
  | zero =>
    intro j hj
    refine Ev.step (fun k => code_Good.l1.eq_2 ..) (Ev.neg (by omega) ?_)
    rw [List.drop_eq_nil_of_le (by omega)]
    simpa [U16] using hr
  | succ m ih =>
    intro j hj
    have hlt : j < us.length := by omega
    refine Ev.step (fun k => code_Good.l1.eq_2 ..) (Ev.pos (by omega) (Ev.pos (by omega) (Ev.pos (by omega) ?_)))
    rw [rd_get us j hlt, List.drop_eq_getElem_cons hlt]
    have e : ∀ z : Bool, (0 ≤ us[j] ∧ us[j] ≤ 65535 ↔ z = true) → (U16 (us[j] :: us.drop (j + 1)) && r) = (z && (U16 (us.drop (j + 1)) && r)) := by
      intro z hz
      have : decide (0 ≤ us[j] ∧ us[j] ≤ 65535) = z := by
        cases z with
        | true => exact decide_eq_true (hz.mpr rfl)
        | false => exact decide_eq_false (fun h => by have := hz.mp h; cases this)
      rw [U16, List.all_cons, this, Bool.and_assoc]; rfl
    by_cases h0 : us[j] < 0
    · rw [e false ⟨fun h => by omega, fun h => by cases h⟩]; exact Ev.pos h0 (Ev.done rfl)
    · refine Ev.neg h0 ?_
      by_cases h1 : us[j] > 65535
      · rw [e false ⟨fun h => by omega, fun h => by cases h⟩]; exact Ev.pos h1 (Ev.done rfl)
      · refine Ev.neg h1 ?_
        rw [e true ⟨fun _ => rfl, fun _ => by omega⟩, nxt j (by omega)]
        exact ih (j + 1) (by omega)
theorem good_j5 (x0 x33 : List S31) (x34 i : Int) (o d t a b c v g : Int) (x r : Bool) (hr : Ev (fun k => code_Good.l0 k x0 x33 x34 (wrap64 (i + 1))) r) :
    Ev (fun k => code_Good.j5 k x0 x33 x34 i x o d t a b c v g) (!x && (U16 (usesS o a b c) && r)) := by
  refine Ev.step (fun k => code_Good.j5.eq_2 ..) ?_
  cases x with
  | true => exact Ev.pos rfl (Ev.done rfl)
  | false =>
    refine Ev.neg (by decide) (Ev.bind (uses_ev ..) ?_)
    simpa using good_l1 x0 x33 x34 i (usesS o a b c) (uses_len ..) r hr (usesS o a b c).length 0 (by omega)
theorem good_j4 (x0 x33 : List S31) (x34 i : Int) (o d t a b c v g : Int) (x r : Bool) (hr : Ev (fun k => code_Good.l0 k x0 x33 x34 (wrap64 (i + 1))) r) :
    Ev (fun k => code_Good.j4 k x0 x33 x34 i x o d t a b c v g) (!x && (decide ((o = 0 ∨ o = 1 ∨ o = 2 ∨ o = 3 ∨ o = 4 → 0 ≤ t ∧ t ≤ 65535) ∧ U16 (usesS o a b c) = true) && r)) := by
  refine Ev.step (fun k => code_Good.j4.eq_2 ..) ?_
  cases x with
  | true => exact Ev.pos rfl (Ev.done rfl)
  | false =>
    refine Ev.neg (by decide) (Ev.pure (defines_is ..) ?_)
    have h5 := fun x => good_j5 x0 x33 x34 i o d t a b c v g x r hr
    by_cases h : o = 0 ∨ o = 1 ∨ o = 2 ∨ o = 3 ∨ o = 4
    · rw [if_pos h]
      by_cases h0 : t < 0
      · refine Ev.pos h0 ?_
        have := h5 true
        rw [decide_eq_false (fun hh => by have := hh.1 h; omega)]; simpa using this
      · refine Ev.neg h0 ?_
        have := h5 (decide (t > 65535))
        have e : decide ((o = 0 ∨ o = 1 ∨ o = 2 ∨ o = 3 ∨ o = 4 → 0 ≤ t ∧ t ≤ 65535) ∧ U16 (usesS o a b c) = true) = (!decide (t > 65535) && U16 (usesS o a b c)) := by
          rw [Bool.eq_iff_iff]
          simp only [decide_eq_true_eq, Bool.and_eq_true, Bool.not_eq_true', decide_eq_false_iff_not]
          exact ⟨fun hh => ⟨by have := hh.1 h; omega, hh.2⟩, fun hh => ⟨fun _ => by omega, hh.2⟩⟩
        rw [e, Bool.and_assoc]; simpa using this
    · rw [if_neg h]
      refine Ev.neg (by decide) ?_
      have := h5 false
      have e : decide ((o = 0 ∨ o = 1 ∨ o = 2 ∨ o = 3 ∨ o = 4 → 0 ≤ t ∧ t ≤ 65535) ∧ U16 (usesS o a b c) = true) = U16 (usesS o a b c) := by
        rw [Bool.eq_iff_iff, decide_eq_true_iff]
        exact ⟨fun hh => hh.2, fun hh => ⟨fun h2 => absurd h2 h, hh⟩⟩
      rw [e]; simpa using this
theorem good_j3 (x0 x33 : List S31) (x34 i : Int) (o d t a b c v g : Int) (x r : Bool) (hr : Ev (fun k => code_Good.l0 k x0 x33 x34 (wrap64 (i + 1))) r) :
    Ev (fun k => code_Good.j3 k x0 x33 x34 i x o d t a b c v g) (!x && (decide ((o = 6 ∨ o = 7 → 0 ≤ g ∧ g < x0.length) ∧ (o = 0 ∨ o = 1 ∨ o = 2 ∨ o = 3 ∨ o = 4 → 0 ≤ t ∧ t ≤ 65535) ∧ U16 (usesS o a b c) = true) && r)) := by
  refine Ev.step (fun k => code_Good.j3.eq_2 ..) ?_
  cases x with
  | true => exact Ev.pos rfl (Ev.done rfl)
  | false =>
    refine Ev.neg (by decide) (Ev.pure (jumps_is ..) ?_)
    have h4 := fun x => good_j4 x0 x33 x34 i o d t a b c v g x r hr
    by_cases h : o = 6 ∨ o = 7
    · have e1 : (if o = 6 then (true, false) else if o = 7 then (true, true) else (false, o != 13)).1 = true := by
        rcases h with rfl | rfl <;> rfl
      refine Ev.pos e1 ?_
      by_cases h0 : g < 0
      · refine Ev.pos h0 ?_
        have := h4 true
        rw [decide_eq_false (fun hh => by have := hh.1 h; omega)]; simpa using this
      · refine Ev.neg h0 ?_
        have := h4 (decide (g ≥ (x0.length : Int)))
        have e : decide ((o = 6 ∨ o = 7 → 0 ≤ g ∧ g < x0.length) ∧ (o = 0 ∨ o = 1 ∨ o = 2 ∨ o = 3 ∨ o = 4 → 0 ≤ t ∧ t ≤ 65535) ∧ U16 (usesS o a b c) = true) = (!decide (g ≥ (x0.length : Int)) && decide ((o = 0 ∨ o = 1 ∨ o = 2 ∨ o = 3 ∨ o = 4 → 0 ≤ t ∧ t ≤ 65535) ∧ U16 (usesS o a b c) = true)) := by
          rw [Bool.eq_iff_iff]
          simp only [decide_eq_true_eq, Bool.and_eq_true, Bool.not_eq_true', decide_eq_false_iff_not]
          exact ⟨fun hh => ⟨by have := hh.1 h; omega, hh.2⟩, fun hh => ⟨fun _ => by omega, hh.2⟩⟩
        rw [e, Bool.and_assoc]; simpa using this
    · have e1 : (if o = 6 then (true, false) else if o = 7 then (true, true) else (false, o != 13)).1 = false := by
        rw [if_neg (fun h6 => h (.inl h6)), if_neg (fun h7 => h (.inr h7))]
      refine Ev.neg (by rw [e1]; decide) ?_
      have := h4 false
      have e : decide ((o = 6 ∨ o = 7 → 0 ≤ g ∧ g < x0.length) ∧ (o = 0 ∨ o = 1 ∨ o = 2 ∨ o = 3 ∨ o = 4 → 0 ≤ t ∧ t ≤ 65535) ∧ U16 (usesS o a b c) = true) = decide ((o = 0 ∨ o = 1 ∨ o = 2 ∨ o = 3 ∨ o = 4 → 0 ≤ t ∧ t ≤ 65535) ∧ U16 (usesS o a b c) = true) := by
        rw [decide_eq_decide]
        exact ⟨fun hh => hh.2, fun hh => ⟨fun h2 => absurd h2 h, hh⟩⟩
      rw [e]; simpa using this
theorem good_l0 (l : List S31) (hl : l.length ≤ 4096) : ∀ (m i : Nat), i + m = l.length → Ev (fun k => code_Good.l0 k l l (l.length : Int) (i : Int)) ((l.drop i).all fun x => decide (gcX l.length x)) := by
  intro m
  induction m with
  | zero =>
    intro i hi
    refine Ev.step (fun k => code_Good.l0.eq_2 ..) (Ev.neg (by omega) (Ev.done ?_))
    rw [List.drop_eq_nil_of_le (by omega)]
    simp
  | succ m ih =>
    intro i hi
    have hlt : i < l.length := by omega
    refine Ev.step (fun k => code_Good.l0.eq_2 ..) (Ev.pos (by omega) (Ev.pos (by omega) (Ev.pos (by omega) ?_)))
    rw [rdT_at l i hlt, List.drop_eq_getElem_cons hlt]
    have hr : Ev (fun k => code_Good.l0 k l l (l.length : Int) (wrap64 ((i : Int) + 1))) ((l.drop (i + 1)).all fun x => decide (gcX l.length x)) := by
      rw [nxt i (by omega)]; exact ih (i + 1) (by omega)
    obtain ⟨x, hx⟩ : ∃ x, x = l[i] := ⟨_, rfl⟩
    rw [← hx]
    have h3 := fun z => good_j3 l l (l.length : Int) (i : Int) x.f0 x.f1 x.f2 x.f3 x.f4 x.f5 x.f6 x.f7 z _ hr
    have e : ∀ z : Bool, (0 ≤ x.f0 ∧ x.f0 ≤ 13 ∧ (x.f0 = 2 → 0 ≤ x.f1 ∧ x.f1 ≤ 9) ↔ z = false) → (!z && (decide ((x.f0 = 6 ∨ x.f0 = 7 → 0 ≤ x.f7 ∧ x.f7 < l.length) ∧ (x.f0 = 0 ∨ x.f0 = 1 ∨ x.f0 = 2 ∨ x.f0 = 3 ∨ x.f0 = 4 → 0 ≤ x.f2 ∧ x.f2 ≤ 65535) ∧ U16 (usesS x.f0 x.f3 x.f4 x.f5) = true) && (l.drop (i + 1)).all fun x => decide (gcX l.length x))) = (x :: l.drop (i + 1)).all fun y => decide (gcX l.length y) := by
      intro z hz
      rw [List.all_cons, ← Bool.and_assoc]
      congr 1
      rw [Bool.eq_iff_iff]
      simp only [decide_eq_true_eq, Bool.and_eq_true, Bool.not_eq_true']
      constructor
      · rintro ⟨h1, h2⟩
        obtain ⟨q1, q2, q3⟩ := hz.mpr h1
        exact ⟨q1, q2, q3, h2⟩
      · rintro ⟨q1, q2, q3, q4⟩
        exact ⟨hz.mp ⟨q1, q2, q3⟩, q4⟩
    by_cases h0 : x.f0 < 0
    · refine Ev.pos h0 ?_
      rw [← e true ⟨fun hh => by omega, fun hh => by cases hh⟩]; exact h3 true
    · refine Ev.neg h0 ?_
      by_cases h1 : x.f0 > 13
      · refine Ev.pos h1 ?_
        rw [← e true ⟨fun hh => by omega, fun hh => by cases hh⟩]; exact h3 true
      · refine Ev.neg h1 ?_
        by_cases h2 : x.f0 = 2
        · refine Ev.pos h2 ?_
          obtain ⟨n, hn, hn0⟩ := tight_is x.f1
          refine Ev.pure hn ?_
          rw [← e (n == 0) ⟨fun hh => by rw [beq_eq_false_iff_ne]; intro hz; exact (hn0.mp hz) (hh.2.2 h2), fun hh => ⟨by omega, by omega, fun _ => by
            rw [beq_eq_false_iff_ne] at hh
            exact Decidable.byContradiction fun hc => hh (hn0.mpr hc)⟩⟩]
          exact h3 (n == 0)
        · refine Ev.neg h2 ?_
          rw [← e false ⟨fun _ => rfl, fun _ => ⟨by omega, by omega, fun hh => absurd hh h2⟩⟩]; exact h3 false
theorem good_ev (l : List S31) (hl : l.length ≤ 9223372036854775807) : Ev (fun k => code_Good.f k l) (decide (goodS l)) := by
  unfold code_Good.f
  by_cases h0 : (l.length : Int) = 0
  · refine Ev.pos h0 (Ev.step (fun k => code_Good.j0.eq_2 ..) (Ev.pos rfl (Ev.done ?_)))
    exact (decide_eq_false fun h => h.1 (by omega)).symm
  · refine Ev.neg h0 (Ev.step (fun k => code_Good.j0.eq_2 ..) ?_)
    by_cases h1 : (l.length : Int) > 4096
    · refine Ev.pos (by simpa using h1) (Ev.done ?_)
      exact (decide_eq_false fun h => by have := h.2.1; omega).symm
    · have e : wrap64 ((l.length : Int) - 1) = (l.length : Int) - 1 := wrap_in (by omega) (by omega)
      refine Ev.neg (by simpa using h1) ?_
      rw [e]
      refine Ev.pos (by omega) (Ev.pos (by omega) ?_)
      have hl := good_l0 l (by omega) l.length 0 (by omega)
      rw [List.drop_zero] at hl
      have hj : ∀ z : Bool, (lastS l = 13 ∨ lastS l = 6 ↔ z = false) → Ev (fun k => code_Good.j1 k l z) (decide (goodS l)) := by
        intro z hz
        refine Ev.step (fun k => code_Good.j1.eq_2 ..) ?_
        cases z with
        | true =>
          refine Ev.pos rfl (Ev.done ?_)
          exact (decide_eq_false fun h => by have := hz.mp h.2.2.1; cases this).symm
        | false =>
          refine Ev.neg (by decide) ?_
          have e2 : decide (goodS l) = l.all fun x => decide (gcX l.length x) := by
            rw [Bool.eq_iff_iff, decide_eq_true_iff, List.all_eq_true]
            exact ⟨fun h x hx => decide_eq_true (h.2.2.2 x hx), fun h => ⟨by omega, by omega, hz.mpr rfl, fun x hx => of_decide_eq_true (h x hx)⟩⟩
          rw [e2]; exact hl
      by_cases h13 : (rd_T31 l ((l.length : Int) - 1)).f0 = 13
      · exact Ev.pos h13 (hj false ⟨fun _ => rfl, fun _ => .inl h13⟩)
      · refine Ev.neg h13 (hj _ ⟨fun h => ?_, fun h => .inr ?_⟩)
        · rcases h with h | h
          · exact absurd h h13
          · rw [bne_eq_false_iff_eq]; exact h
        · rw [bne_eq_false_iff_eq] at h; exact h
theorem s46_ext {x y : S31} (h0 : x.f0 = y.f0) (h1 : x.f1 = y.f1) (h2 : x.f2 = y.f2) (h3 : x.f3 = y.f3) (h4 : x.f4 = y.f4) (h5 : x.f5 = y.f5) (h6 : x.f6 = y.f6) (h7 : x.f7 = y.f7) : x = y := by
  obtain ⟨_, _, _, _, _, _, _, _⟩ := x
  obtain ⟨_, _, _, _, _, _, _, _⟩ := y
  simp only at h0 h1 h2 h3 h4 h5 h6 h7
  subst h0 h1 h2 h3 h4 h5 h6 h7
  rfl
instance : DecidableEq S31 := fun x y => decidable_of_iff (x.f0 = y.f0 ∧ x.f1 = y.f1 ∧ x.f2 = y.f2 ∧ x.f3 = y.f3 ∧ x.f4 = y.f4 ∧ x.f5 = y.f5 ∧ x.f6 = y.f6 ∧ x.f7 = y.f7)
  ⟨fun ⟨h0, h1, h2, h3, h4, h5, h6, h7⟩ => s46_ext h0 h1 h2 h3 h4 h5 h6 h7, fun h => by subst h; exact ⟨rfl, rfl, rfl, rfl, rfl, rfl, rfl, rfl⟩⟩
theorem eq2_test (x y : S31) : (!(x.f0 == y.f0) || (!(x.f1 == y.f1) || (!(x.f2 == y.f2) || (!(x.f3 == y.f3) || (!(x.f4 == y.f4) || (!(x.f5 == y.f5) || (!(x.f6 == y.f6) || (!(x.f7 == y.f7))))))))) = !decide (x = y) := by
  by_cases h : x = y
  · subst h; simp
  · rw [decide_eq_false h, Bool.not_false]
    by_cases h0 : x.f0 = y.f0 <;> by_cases h1 : x.f1 = y.f1 <;> by_cases h2 : x.f2 = y.f2 <;> by_cases h3 : x.f3 = y.f3 <;> by_cases h4 : x.f4 = y.f4 <;> by_cases h5 : x.f5 = y.f5 <;> by_cases h6 : x.f6 = y.f6 <;> by_cases h7 : x.f7 = y.f7 <;> first
      | exact absurd (s46_ext h0 h1 h2 h3 h4 h5 h6 h7) h
      | simp [*]
theorem eq2_loop (a b : List S31) (hab : a.length = b.length) (hl : a.length ≤ 9223372036854775806) : ∀ (d i : Nat), i + d = a.length → Ev (fun k => tautochronelaw15_Equal.l0 k a b (a.length : Int) (i : Int)) (decide (a.drop i = b.drop i)) := by
  intro d
  induction d with
  | zero =>
    intro i hi
    refine Ev.step (fun k => tautochronelaw15_Equal.l0.eq_2 ..) (Ev.neg (by omega) (Ev.done ?_))
    rw [List.drop_eq_nil_of_le (by omega), List.drop_eq_nil_of_le (by omega)]; rfl
  | succ d ih =>
    intro i hi
    have h1 : i < a.length := by omega
    have h2 : i < b.length := by omega
    refine Ev.step (fun k => tautochronelaw15_Equal.l0.eq_2 ..) (Ev.pos (by omega) (Ev.pos (by omega) (Ev.pos (by omega) (Ev.pos (by omega) ?_))))
    rw [rdT_at a i h1, rdT_at b i h2, eq2_test, List.drop_eq_getElem_cons h1, List.drop_eq_getElem_cons h2]
    by_cases h : a[i] = b[i]
    · refine Ev.neg (by rw [decide_eq_true h]; decide) ?_
      rw [nxt i (by omega), h]
      have := ih (i + 1) (by omega)
      rw [show decide (b[i] :: a.drop (i + 1) = b[i] :: b.drop (i + 1)) = decide (a.drop (i + 1) = b.drop (i + 1)) from decide_eq_decide.mpr ⟨fun h => (List.cons.inj h).2, fun h => by rw [h]⟩]
      exact this
    · refine Ev.pos (by rw [decide_eq_false h]; rfl) (Ev.done ?_)
      exact (decide_eq_false (fun hh => h (List.cons.inj hh).1)).symm
theorem eq2_ev (a b : List S31) (hl : a.length ≤ 9223372036854775806) : Ev (fun k => tautochronelaw15_Equal.f k a b) (decide (a = b)) := by
  unfold tautochronelaw15_Equal.f
  by_cases h : (a.length : Int) = b.length
  · refine Ev.pos h ?_
    have := eq2_loop a b (by omega) hl a.length 0 (by omega)
    simpa using this
  · refine Ev.neg h (Ev.done (decide_eq_false ?_).symm)
    intro e; rw [e] at h; exact h rfl
/-- The places that may come behind place i: of those that there are. -/
def nextS (o g at_ n : Int) : List Int :=
  if (o = 6 ∨ o = 7) ∧ 0 ≤ g ∧ g < n then
    (if (o ≠ 6 ∧ o ≠ 13) ∧ at_ + 1 < n then (if g > at_ + 1 then [at_ + 1, g] else if g < at_ + 1 then [g, at_ + 1] else [at_ + 1]) else [g])
  else if (o ≠ 6 ∧ o ≠ 13) ∧ at_ + 1 < n then [at_ + 1] else []
def nx (l : List S31) (i : Nat) : List Nat := match l[i]? with
  | some x => (nextS x.f0 x.f7 i l.length).map Int.toNat
  | none => []
theorem nextS_mem {o g at_ n m : Int} (h : m ∈ nextS o g at_ n) (ha : 0 ≤ at_) : 0 ≤ m ∧ m < n := by
  unfold nextS at h
  (repeat' split at h) <;> simp at h <;> omega
theorem nextS_len (o g at_ n : Int) : (nextS o g at_ n).length ≤ 2 := by
  unfold nextS
  (repeat' split) <;> simp
theorem nx_lt {l : List S31} {i m : Nat} (h : m ∈ nx l i) : m < l.length := by
  unfold nx at h
  split at h
  · rw [List.mem_map] at h
    obtain ⟨z, hz, rfl⟩ := h
    have := nextS_mem hz (by omega)
    omega
  · simp at h
inductive Path (l : List S31) (i : Nat) : Nat → Prop
  | here : Path l i i
  | on (j m : Nat) : Path l i j → m ∈ nx l j → Path l i m
theorem Path.first {l : List S31} {i m j : Nat} (hm : m ∈ nx l i) (h : Path l m j) : Path l i j := by
  induction h with
  | here => exact .on i m .here hm
  | on a b _ hb ih => exact .on a b ih hb
def at_ (o : List Bool) (i : Nat) : Bool := o.getD i true
theorem at_set (o : List Bool) (i j : Nat) (b : Bool) : at_ (o.set i b) j = if i = j ∧ j < o.length then b else at_ o j := by
  unfold at_
  rw [List.getD_eq_getElem?_getD, List.getD_eq_getElem?_getD, List.getElem?_set]
  by_cases h : i = j
  · subst h
    by_cases h2 : i < o.length
    · simp [h2]
    · simp [h2, List.getElem?_eq_none (Nat.le_of_not_lt h2)]
  · simp [h]
def dfs (l : List S31) : Nat → Nat → List Bool → List Bool
  | 0, _, o => o
  | f + 1, i, o => if at_ o i = true then o else (nx l i).foldl (fun p m => dfs l f m p) (o.set i true)
/-- How many places are still free. -/
def free (o : List Bool) : Nat := o.count false
theorem free_set (o : List Bool) (i : Nat) (h : at_ o i = false) : free (o.set i true) + 1 = free o := by
  unfold free
  induction o generalizing i with
  | nil => simp [at_] at h
  | cons b o ih =>
    cases i with
    | zero =>
      have : b = false := by simpa [at_] using h
      subst this
      simp
    | succ i =>
      have := ih i (by simpa [at_] using h)
      rw [List.set_cons_succ, List.count_cons, List.count_cons]
      omega
theorem free_zero {o : List Bool} (h : free o = 0) (i : Nat) : at_ o i = true := by
  unfold free at h
  rw [List.count_eq_zero] at h
  unfold at_
  rw [List.getD_eq_getElem?_getD]
  cases hx : o[i]? with
  | none => rfl
  | some b =>
    cases b with
    | true => rfl
    | false => exact absurd (List.mem_of_getElem? hx) h
def Le (o p : List Bool) : Prop := p.length = o.length ∧ ∀ j, at_ o j = true → at_ p j = true
theorem Le.refl (o : List Bool) : Le o o := ⟨rfl, fun _ h => h⟩
theorem Le.trans {o p q : List Bool} (h : Le o p) (h2 : Le p q) : Le o q := ⟨h2.1.trans h.1, fun j hj => h2.2 j (h.2 j hj)⟩
theorem Le.free {o p : List Bool} (h : Le o p) : free p ≤ free o := by
  induction o generalizing p with
  | nil => obtain rfl : p = [] := List.eq_nil_of_length_eq_zero h.1; exact Nat.le_refl _
  | cons a o ih =>
    obtain _ | ⟨b, p⟩ := p
    · have := h.1; simp at this
    · have h1 := ih (p := p) ⟨by have := h.1; simpa using this, fun j hj => by have := h.2 (j + 1) (by simpa [at_] using hj); simpa [at_] using this⟩
      have h2 := h.2 0
      simp [at_] at h2
      unfold Pure.free at h1 ⊢
      rw [List.count_cons, List.count_cons]
      cases a <;> cases b <;> simp at h2 ⊢ <;> omega
theorem Le.set {o : List Bool} (i : Nat) : Le o (o.set i true) := ⟨List.length_set, fun j hj => by rw [at_set]; split; rfl; exact hj⟩
/-- What holds of a walk's marks o' of those ahead, o: more places, what was added is closed and can be come to. -/
structure Post (l : List S31) (R : Nat → Prop) (o p : List Bool) : Prop where
  le : Le o p
  shut : ∀ j, at_ p j = true → at_ o j = false → ∀ m ∈ nx l j, at_ p m = true
  come : ∀ j, at_ p j = true → at_ o j = false → R j
theorem Post.none {l : List S31} {R : Nat → Prop} (o : List Bool) : Post l R o o :=
  ⟨Le.refl o, fun _ h h2 => absurd (h.symm.trans h2) (by decide), fun _ h h2 => absurd (h.symm.trans h2) (by decide)⟩
theorem Post.trans {l : List S31} {R : Nat → Prop} {o p q : List Bool} (h : Post l R o p) (h2 : Post l R p q) : Post l R o q := by
  refine ⟨h.le.trans h2.le, fun j hj ho m hm => ?_, fun j hj ho => ?_⟩
  · cases hp : at_ p j with
    | true => exact h2.le.2 m (h.shut j hp ho m hm)
    | false => exact h2.shut j hj hp m hm
  · cases hp : at_ p j with
    | true => exact h.come j hp ho
    | false => exact h2.come j hj hp
theorem Post.mono {l : List S31} {R S : Nat → Prop} {o p : List Bool} (h : Post l R o p) (hs : ∀ j, R j → S j) : Post l S o p := ⟨h.le, h.shut, fun j a b => hs j (h.come j a b)⟩
theorem dfs_post (l : List S31) : ∀ (f i : Nat) (o : List Bool), free o ≤ f → Post l (Path l i) o (dfs l f i o) ∧ at_ (dfs l f i o) i = true := by
  intro f
  induction f with
  | zero => intro i o hf; exact ⟨Post.none o, free_zero (Nat.le_zero.mp hf) i⟩
  | succ f ih =>
    intro i o hf
    rw [dfs]
    by_cases h : at_ o i = true
    · rw [if_pos h]; exact ⟨Post.none o, h⟩
    · rw [if_neg h]
      have hff : at_ o i = false := by simpa using h
      have hfs := free_set o i hff
      have key : ∀ (ms : List Nat) (p : List Bool), (∀ m ∈ ms, m ∈ nx l i) → free p ≤ f →
          Post l (Path l i) p (ms.foldl (fun p m => dfs l f m p) p) ∧ ∀ m ∈ ms, at_ (ms.foldl (fun p m => dfs l f m p) p) m = true := by
        intro ms
        induction ms with
        | nil => intro p _ _; exact ⟨Post.none p, fun m hm => by simp at hm⟩
        | cons a ms ihm =>
          intro p hm hp
          obtain ⟨h1, h2⟩ := ih a p hp
          have h1' := h1.mono (S := Path l i) (fun j hj => Path.first (hm a (by simp)) hj)
          obtain ⟨h3, h4⟩ := ihm (dfs l f a p) (fun m h => hm m (by simp [h])) (Nat.le_trans h1.le.free hp)
          rw [List.foldl_cons]
          refine ⟨h1'.trans h3, fun m hmm => ?_⟩
          rcases List.mem_cons.mp hmm with rfl | hmm
          · exact h3.le.2 _ h2
          · exact h4 m hmm
      obtain ⟨h1, h2⟩ := key (nx l i) (o.set i true) (fun _ h => h) (by omega)
      have hi : at_ (o.set i true) i = true := by rw [at_set]; split; rfl; rename_i hc; unfold at_; rw [List.getD_eq_getElem?_getD, List.getElem?_eq_none (by simpa using hc)]; rfl
      refine ⟨⟨(Le.set i).trans h1.le, fun j hj ho m hm => ?_, fun j hj ho => ?_⟩, h1.le.2 i hi⟩
      · by_cases hji : j = i
        · subst hji; exact h2 m hm
        · exact h1.shut j hj (by rw [at_set, if_neg (by omega)]; exact ho) m hm
      · by_cases hji : j = i
        · subst hji; exact .here
        · exact h1.come j hj (by rw [at_set, if_neg (by omega)]; exact ho)
/-- Marks of just the places that can be come to. -/
def Reached (l : List S31) (o : List Bool) : Prop := o.length = l.length ∧ ∀ j, j < l.length → (at_ o j = true ↔ Path l 0 j)
theorem Reached.uniq {l : List S31} {o p : List Bool} (h : Reached l o) (h2 : Reached l p) : o = p := by
  refine List.ext_getElem (h.1.trans h2.1.symm) fun i h3 h4 => ?_
  have a := h.2 i (by have := h.1; omega)
  have b := h2.2 i (by have := h.1; omega)
  have ea : at_ o i = o[i] := by unfold at_; rw [List.getD_eq_getElem?_getD, List.getElem?_eq_getElem h3]; rfl
  have eb : at_ p i = p[i] := by unfold at_; rw [List.getD_eq_getElem?_getD, List.getElem?_eq_getElem h4]; rfl
  rw [ea] at a; rw [eb] at b
  rw [Bool.eq_iff_iff, a, b]
def reachS (l : List S31) : List Bool := dfs l l.length 0 (List.replicate l.length false)
theorem at_rep (n j : Nat) (h : j < n) : at_ (List.replicate n false) j = false := by
  unfold at_; rw [List.getD_eq_getElem?_getD, List.getElem?_replicate, if_pos h]; rfl
theorem reached_closed {l : List S31} {o : List Bool} (h0 : 0 < l.length → at_ o 0 = true) (hs : ∀ j, j < l.length → at_ o j = true → ∀ m ∈ nx l j, at_ o m = true) (hl : o.length = l.length) :
    ∀ j, Path l 0 j → j < l.length → at_ o j = true := by
  intro j hj
  induction hj with
  | here => exact h0
  | on a b _ hb ih =>
    intro _
    by_cases ha : a < l.length
    · exact hs a ha (ih ha) b hb
    · exfalso
      unfold nx at hb
      rw [List.getElem?_eq_none (by omega)] at hb
      simp at hb
theorem reachS_is (l : List S31) : Reached l (reachS l) := by
  have hfree : free (List.replicate l.length false) ≤ l.length := by unfold free; rw [List.count_replicate]; simp
  obtain ⟨h1, h2⟩ := dfs_post l l.length 0 (List.replicate l.length false) hfree
  have hlen : (reachS l).length = l.length := by have := h1.le.1; rw [List.length_replicate] at this; exact this
  exact ⟨hlen, fun j hj => ⟨fun h => h1.come j h (at_rep _ _ hj), fun h => reached_closed (fun _ => h2) (fun j hj hjo m hm => h1.shut j hjo (at_rep _ _ hj) m hm) hlen j h hj⟩⟩
theorem next_ev (o d t a b c v g at_ n : Int) (h0 : 0 ≤ at_) (h1 : at_ ≤ 9223372036854775806) : Ev (fun k => code_Next.f k o d t a b c v g at_ n) (nextS o g at_ n) := by
  have hw : wrap64 (at_ + 1) = at_ + 1 := wrap_in (by omega) (by omega)
  have h2 : ∀ (x9 : List Int) (x38 : Bool), x9.length ≤ 1 → Ev (fun k => code_Next.j2 k x9 x38 o d t a b c v g) (if x38 = true then (match x9 with | [] => [g] | y :: _ => if g > y then [y, g] else if g < y then [g, y] else [y]) else x9) := by
    intro x9 x38 hl
    refine Ev.step (fun k => code_Next.j2.eq_2 ..) ?_
    cases x38 with
    | false => exact Ev.neg (by decide) (Ev.done rfl)
    | true =>
      refine Ev.pos rfl ?_
      obtain _ | ⟨y, _ | ⟨z, q⟩⟩ := x9
      · refine Ev.pos rfl (Ev.step (fun k => code_Next.j3.eq_2 ..) (Ev.pos rfl (Ev.pos (by simp) (Ev.done rfl))))
      · have e : rd [y] 0 = y := rfl
        refine Ev.neg (by simp) (Ev.pos (by simp) (Ev.step (fun k => code_Next.j3.eq_2 ..) ?_))
        rw [e]
        by_cases hg : g > y
        · refine Ev.pos (by simpa using hg) (Ev.pos (by simp) (Ev.done ?_))
          simp [hg]
        · refine Ev.neg (by simpa using hg) (Ev.pos (by simp) ?_)
          by_cases hg2 : g < y
          · refine Ev.pos hg2 (Ev.done ?_)
            simp [hg, hg2]
          · refine Ev.neg hg2 (Ev.done ?_)
            simp [hg, hg2]
      · simp at hl
  have h1' : ∀ (x7 : Bool) (x9 : List Int), x9.length ≤ 1 → Ev (fun k => code_Next.j1 k n x7 x9 o d t a b c v g) (if x7 = true ∧ 0 ≤ g ∧ g < n then (match x9 with | [] => [g] | y :: _ => if g > y then [y, g] else if g < y then [g, y] else [y]) else x9) := by
    intro x7 x9 hl
    refine Ev.step (fun k => code_Next.j1.eq_2 ..) ?_
    cases x7 with
    | false => refine Ev.neg (by decide) ?_; simpa using h2 x9 false hl
    | true =>
      refine Ev.pos rfl ?_
      by_cases hg : g ≥ 0
      · refine Ev.pos hg ?_
        have := h2 x9 (decide (g < n)) hl
        simp only [decide_eq_true_eq] at this
        simpa [show 0 ≤ g from hg] using this
      · refine Ev.neg hg ?_
        have := h2 x9 false hl
        simpa [show ¬ 0 ≤ g from hg] using this
  have h0' : ∀ (x7 x21 : Bool), Ev (fun k => code_Next.j0 k at_ n x7 ([] : List Int) x21 o d t a b c v g) (if x7 = true ∧ 0 ≤ g ∧ g < n then (if x21 = true then (if g > at_ + 1 then [at_ + 1, g] else if g < at_ + 1 then [g, at_ + 1] else [at_ + 1]) else [g]) else if x21 = true then [at_ + 1] else []) := by
    intro x7 x21
    refine Ev.step (fun k => code_Next.j0.eq_2 ..) ?_
    cases x21 with
    | true =>
      refine Ev.pos rfl (Ev.pos (by simp) ?_)
      rw [hw]
      exact h1' x7 [at_ + 1] (by simp)
    | false =>
      refine Ev.neg (by decide) ?_
      exact h1' x7 [] (by simp)
  unfold code_Next.f
  refine Ev.pure (jumps_is ..) ?_
  unfold nextS
  by_cases h6 : o = 6
  · have := h0' true false
    simpa [h6, hw] using this
  by_cases h7 : o = 7
  · have := h0' true (decide (at_ + 1 < n))
    simpa [h6, h7, hw] using this
  by_cases h13 : o = 13
  · have := h0' false false
    simpa [h6, h7, h13, hw] using this
  · have := h0' false (decide (at_ + 1 < n))
    simpa [h6, h7, h13, hw] using this
end Go.Proofs.Ytpibifgllbfgmaa.Pure
