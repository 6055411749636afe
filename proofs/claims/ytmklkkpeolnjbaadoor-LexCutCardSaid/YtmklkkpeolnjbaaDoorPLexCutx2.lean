/-
For LexCut: what the Go functions that it reaches compute, as plain Lean functions, and the walks that show it; conditions as each theorem states them. (Written by a program of this session on the kit's print.)
-/
-- PRINTED by print.py (a twelfth state) out of the translation. Not trusted: Lean checks it.
import Derived.Test.YtmklkkpeolnjbaaDoorPLexCutx0
namespace Go.Proofs.YtmklkkpeolnjbaaDoor.PLexCut
open Go.RowKit Go.Proofs.YtmklkkpeolnjbaaDoorW.PrintWords Go.Proofs.YtmklkkpeolnjbaaDoorW.PrintLast Go.Proofs.YtmklkkpeolnjbaaDoorW.PrintMore
attribute [local go_sem] max2_int min2_int max_two min_two max_three min_three max_four min_four   -- for this text's walks alone
set_option linter.unusedVariables false
set_option linter.unusedSimpArgs false

/-! ### lex_sign: function 25 -/
def lex_sign.j0 : Nat → ByteArray → Int → Option (ByteArray)
  | 0, _, _ => none
  | k + 1, x0, x1 => if 0 ≤ x1 then (if x1 < (x0.size : Int) then (if (bt x0 x1) = 59 then (if x1 ≤ (wrap64 (x1 + 1)) then (if (wrap64 (x1 + 1)) ≤ (x0.size : Int) then (some (x0.extract (x1 : Int).toNat ((wrap64 (x1 + 1)) : Int).toNat)) else (none)) else (none)) else (if (bt x0 x1) = 61 then (if x1 ≤ (wrap64 (x1 + 1)) then (if (wrap64 (x1 + 1)) ≤ (x0.size : Int) then (some (x0.extract (x1 : Int).toNat ((wrap64 (x1 + 1)) : Int).toNat)) else (none)) else (none)) else (if (bt x0 x1) = 91 then (if x1 ≤ (wrap64 (x1 + 1)) then (if (wrap64 (x1 + 1)) ≤ (x0.size : Int) then (some (x0.extract (x1 : Int).toNat ((wrap64 (x1 + 1)) : Int).toNat)) else (none)) else (none)) else (if (bt x0 x1) = 93 then (if x1 ≤ (wrap64 (x1 + 1)) then (if (wrap64 (x1 + 1)) ≤ (x0.size : Int) then (some (x0.extract (x1 : Int).toNat ((wrap64 (x1 + 1)) : Int).toNat)) else (none)) else (none)) else (if (bt x0 x1) = 123 then (if x1 ≤ (wrap64 (x1 + 1)) then (if (wrap64 (x1 + 1)) ≤ (x0.size : Int) then (some (x0.extract (x1 : Int).toNat ((wrap64 (x1 + 1)) : Int).toNat)) else (none)) else (none)) else (if (bt x0 x1) = 125 then (if x1 ≤ (wrap64 (x1 + 1)) then (if (wrap64 (x1 + 1)) ≤ (x0.size : Int) then (some (x0.extract (x1 : Int).toNat ((wrap64 (x1 + 1)) : Int).toNat)) else (none)) else (none)) else (if (bt x0 x1) = 40 then (if x1 ≤ (wrap64 (x1 + 1)) then (if (wrap64 (x1 + 1)) ≤ (x0.size : Int) then (some (x0.extract (x1 : Int).toNat ((wrap64 (x1 + 1)) : Int).toNat)) else (none)) else (none)) else (if (bt x0 x1) = 41 then (if x1 ≤ (wrap64 (x1 + 1)) then (if (wrap64 (x1 + 1)) ≤ (x0.size : Int) then (some (x0.extract (x1 : Int).toNat ((wrap64 (x1 + 1)) : Int).toNat)) else (none)) else (none)) else (if (bt x0 x1) = 44 then (if x1 ≤ (wrap64 (x1 + 1)) then (if (wrap64 (x1 + 1)) ≤ (x0.size : Int) then (some (x0.extract (x1 : Int).toNat ((wrap64 (x1 + 1)) : Int).toNat)) else (none)) else (none)) else (if (bt x0 x1) = 43 then (if x1 ≤ (wrap64 (x1 + 1)) then (if (wrap64 (x1 + 1)) ≤ (x0.size : Int) then (some (x0.extract (x1 : Int).toNat ((wrap64 (x1 + 1)) : Int).toNat)) else (none)) else (none)) else (if (bt x0 x1) = 45 then (if x1 ≤ (wrap64 (x1 + 1)) then (if (wrap64 (x1 + 1)) ≤ (x0.size : Int) then (some (x0.extract (x1 : Int).toNat ((wrap64 (x1 + 1)) : Int).toNat)) else (none)) else (none)) else (if (bt x0 x1) = 42 then (if x1 ≤ (wrap64 (x1 + 1)) then (if (wrap64 (x1 + 1)) ≤ (x0.size : Int) then (some (x0.extract (x1 : Int).toNat ((wrap64 (x1 + 1)) : Int).toNat)) else (none)) else (none)) else (if (bt x0 x1) = 38 then (if x1 ≤ (wrap64 (x1 + 1)) then (if (wrap64 (x1 + 1)) ≤ (x0.size : Int) then (some (x0.extract (x1 : Int).toNat ((wrap64 (x1 + 1)) : Int).toNat)) else (none)) else (none)) else (if (bt x0 x1) = 124 then (if x1 ≤ (wrap64 (x1 + 1)) then (if (wrap64 (x1 + 1)) ≤ (x0.size : Int) then (some (x0.extract (x1 : Int).toNat ((wrap64 (x1 + 1)) : Int).toNat)) else (none)) else (none)) else (if (bt x0 x1) = 94 then (if x1 ≤ (wrap64 (x1 + 1)) then (if (wrap64 (x1 + 1)) ≤ (x0.size : Int) then (some (x0.extract (x1 : Int).toNat ((wrap64 (x1 + 1)) : Int).toNat)) else (none)) else (none)) else (if (bt x0 x1) = 60 then (if x1 ≤ (wrap64 (x1 + 1)) then (if (wrap64 (x1 + 1)) ≤ (x0.size : Int) then (some (x0.extract (x1 : Int).toNat ((wrap64 (x1 + 1)) : Int).toNat)) else (none)) else (none)) else (if (bt x0 x1) = 126 then (if x1 ≤ (wrap64 (x1 + 1)) then (if (wrap64 (x1 + 1)) ≤ (x0.size : Int) then (some (x0.extract (x1 : Int).toNat ((wrap64 (x1 + 1)) : Int).toNat)) else (none)) else (none)) else (some (⟨#[]⟩ : ByteArray))))))))))))))))))) else (none)) else (none)
def lex_sign.f (k : Nat) (a0 : ByteArray) (a1 : Int) : Option (ByteArray) := if (wrap64 (a1 + 1)) < (a0.size : Int) then (if 0 ≤ a1 then (if a1 ≤ (wrap64 (a1 + 2)) then (if (wrap64 (a1 + 2)) ≤ (a0.size : Int) then (if (a0.extract (a1 : Int).toNat ((wrap64 (a1 + 2)) : Int).toNat).toList = ([60, 60] : List UInt8) then (some (a0.extract (a1 : Int).toNat ((wrap64 (a1 + 2)) : Int).toNat)) else (if (a0.extract (a1 : Int).toNat ((wrap64 (a1 + 2)) : Int).toNat).toList = ([62, 62] : List UInt8) then (some (a0.extract (a1 : Int).toNat ((wrap64 (a1 + 2)) : Int).toNat)) else (if (a0.extract (a1 : Int).toNat ((wrap64 (a1 + 2)) : Int).toNat).toList = ([61, 61] : List UInt8) then (some (a0.extract (a1 : Int).toNat ((wrap64 (a1 + 2)) : Int).toNat)) else (lex_sign.j0 k a0 a1)))) else (none)) else (none)) else (none)) else (lex_sign.j0 k a0 a1)
theorem lex_sign.mono_l : ∀ k, (∀ y0 y1, LeO (lex_sign.j0 k y0 y1) (lex_sign.j0 (k + 1) y0 y1))
  | 0 => fun _ _ r h => by simp [lex_sign.j0] at h
  | k + 1 => by
    have ih0 := lex_sign.mono_l k
    · intro y0 y1
      unfold lex_sign.j0
      repeat' first
      | (with_reducible exact ih0 _ _)
      | (with_reducible exact LeO.refl _)
      | (with_reducible exact LeO.none _)
      | (with_reducible refine LeO.ite ?_ ?_)
      | (with_reducible refine LeO.bind ?_ (fun _ => ?_))
      | exact ih0 _ _
      | exact LeO.none _
      | refine LeO.ite ?_ ?_
      | refine LeO.bind ?_ (fun _ => ?_)
theorem lex_sign.mono : ∀ a0 a1 k, LeO (lex_sign.f k a0 a1) (lex_sign.f (k + 1) a0 a1) := by
  intro a0 a1 k
  have ih0 := lex_sign.mono_l k
  unfold lex_sign.f
  repeat' first
      | (with_reducible exact ih0 _ _)
      | (with_reducible exact LeO.refl _)
      | (with_reducible exact LeO.none _)
      | (with_reducible refine LeO.ite ?_ ?_)
      | (with_reducible refine LeO.bind ?_ (fun _ => ?_))
      | exact ih0 _ _
      | exact LeO.none _
      | refine LeO.ite ?_ ?_
      | refine LeO.bind ?_ (fun _ => ?_)
set_option maxHeartbeats 8000000 in
set_option maxRecDepth 100000 in
theorem lex_sign.calls (k : Nat) (a0 : ByteArray) (a1 : Int) (r : ByteArray) (w : World) (h : lex_sign.f k a0 a1 = some r) :
    Calls Tryd.prog 25 #[.string a0, .int .i64 a1] w fun e w' => e = .returned (.string r) ∧ Drawn0 w w' := by
  have H : (if (wrap64 (a1 + 1)) < (a0.size : Int) then (if 0 ≤ a1 then (if a1 ≤ (wrap64 (a1 + 2)) then (if (wrap64 (a1 + 2)) ≤ (a0.size : Int) then (if (a0.extract (a1 : Int).toNat ((wrap64 (a1 + 2)) : Int).toNat).toList = ([60, 60] : List UInt8) then (some (a0.extract (a1 : Int).toNat ((wrap64 (a1 + 2)) : Int).toNat)) else (if (a0.extract (a1 : Int).toNat ((wrap64 (a1 + 2)) : Int).toNat).toList = ([62, 62] : List UInt8) then (some (a0.extract (a1 : Int).toNat ((wrap64 (a1 + 2)) : Int).toNat)) else (if (a0.extract (a1 : Int).toNat ((wrap64 (a1 + 2)) : Int).toNat).toList = ([61, 61] : List UInt8) then (some (a0.extract (a1 : Int).toNat ((wrap64 (a1 + 2)) : Int).toNat)) else (lex_sign.j0 k a0 a1)))) else (none)) else (none)) else (none)) else (lex_sign.j0 k a0 a1)) = some r := h
  clear h
  have HC3 := Aside0.mk H
  clear H
  go_enter Tryd.func25, Tryd.ntmps25
  go_upto_if 10 with (fail)
  go_cut [] (fun wc => ∃ (kq : Nat), Aside0 (lex_sign.j0 kq a0 a1 = some r) ∧ Aside0 (kq ≤ k) ∧ Drawn0 w wc)
  case first =>
    have H := HC3.out
    clear HC3
    by_cases c4 : (wrap64 (a1 + 1)) < (a0.size : Int)
    · rw [if_pos c4] at H
      have c4b0 : decide ((wrap64 (a1 + 1)) < (a0.size : Int)) = true := decide_eq_true c4
      clear c4
      (first | rw [c4b0] | (simp only [i64_w, i32_w]; rw [c4b0]) | skip)
      by_cases c5 : 0 ≤ a1
      · rw [if_pos c5] at H
        have c5b0 := eq_true c5
        have c5b1 : decide (0 ≤ a1) = true := decide_eq_true c5
        clear c5
        by_cases c6 : a1 ≤ (wrap64 (a1 + 2))
        · rw [if_pos c6] at H
          have c6b0 := eq_true c6
          have c6b1 : decide (a1 ≤ (wrap64 (a1 + 2))) = true := decide_eq_true c6
          by_cases c7 : (wrap64 (a1 + 2)) ≤ (a0.size : Int)
          · rw [if_pos c7] at H
            have c7b0 := eq_true c7
            have c7b1 : decide ((wrap64 (a1 + 2)) ≤ (a0.size : Int)) = true := decide_eq_true c7
            by_cases c8 : (a0.extract (a1 : Int).toNat ((wrap64 (a1 + 2)) : Int).toNat).toList = ([60, 60] : List UInt8)
            · rw [if_pos c8] at H
              have c8b0 : ((a0.extract (a1 : Int).toNat ((wrap64 (a1 + 2)) : Int).toNat).toList == ([60, 60] : List UInt8)) = true := beq_iff_eq.mpr c8
              have c8b1 : ((a0.extract (a1 : Int).toNat ((wrap64 (a1 + 2)) : Int).toNat).toList != ([60, 60] : List UInt8)) = false := bne_eq_false_iff_eq.mpr c8
              clear c8
              obtain rfl := Option.some.inj H
              go_wp2
              go_ret
              exact ⟨by first | rfl | (simp; done) | (simp [*]; done), by repeat (first | exact Drawn0.refl _ | apply Drawn0.step)⟩
            · rw [if_neg c8] at H
              have c8b0 : ((a0.extract (a1 : Int).toNat ((wrap64 (a1 + 2)) : Int).toNat).toList == ([60, 60] : List UInt8)) = false := beq_eq_false_iff_ne.mpr c8
              have c8b1 : ((a0.extract (a1 : Int).toNat ((wrap64 (a1 + 2)) : Int).toNat).toList != ([60, 60] : List UInt8)) = true := bne_iff_ne.mpr c8
              by_cases c9 : (a0.extract (a1 : Int).toNat ((wrap64 (a1 + 2)) : Int).toNat).toList = ([62, 62] : List UInt8)
              · rw [if_pos c9] at H
                have c9b0 : ((a0.extract (a1 : Int).toNat ((wrap64 (a1 + 2)) : Int).toNat).toList == ([62, 62] : List UInt8)) = true := beq_iff_eq.mpr c9
                have c9b1 : ((a0.extract (a1 : Int).toNat ((wrap64 (a1 + 2)) : Int).toNat).toList != ([62, 62] : List UInt8)) = false := bne_eq_false_iff_eq.mpr c9
                clear c9
                obtain rfl := Option.some.inj H
                go_wp2
                go_ret
                exact ⟨by first | rfl | (simp; done) | (simp [*]; done), by repeat (first | exact Drawn0.refl _ | apply Drawn0.step)⟩
              · rw [if_neg c9] at H
                have c9b0 : ((a0.extract (a1 : Int).toNat ((wrap64 (a1 + 2)) : Int).toNat).toList == ([62, 62] : List UInt8)) = false := beq_eq_false_iff_ne.mpr c9
                have c9b1 : ((a0.extract (a1 : Int).toNat ((wrap64 (a1 + 2)) : Int).toNat).toList != ([62, 62] : List UInt8)) = true := bne_iff_ne.mpr c9
                by_cases c10 : (a0.extract (a1 : Int).toNat ((wrap64 (a1 + 2)) : Int).toNat).toList = ([61, 61] : List UInt8)
                · rw [if_pos c10] at H
                  have c10b0 : ((a0.extract (a1 : Int).toNat ((wrap64 (a1 + 2)) : Int).toNat).toList == ([61, 61] : List UInt8)) = true := beq_iff_eq.mpr c10
                  have c10b1 : ((a0.extract (a1 : Int).toNat ((wrap64 (a1 + 2)) : Int).toNat).toList != ([61, 61] : List UInt8)) = false := bne_eq_false_iff_eq.mpr c10
                  clear c10
                  obtain rfl := Option.some.inj H
                  go_wp2
                  go_ret
                  exact ⟨by first | rfl | (simp; done) | (simp [*]; done), by repeat (first | exact Drawn0.refl _ | apply Drawn0.step)⟩
                · rw [if_neg c10] at H
                  have c10b0 : ((a0.extract (a1 : Int).toNat ((wrap64 (a1 + 2)) : Int).toNat).toList == ([61, 61] : List UInt8)) = false := beq_eq_false_iff_ne.mpr c10
                  have c10b1 : ((a0.extract (a1 : Int).toNat ((wrap64 (a1 + 2)) : Int).toNat).toList != ([61, 61] : List UInt8)) = true := bne_iff_ne.mpr c10
                  have H' := Aside0.mk H
                  clear H
                  go_wp2
                  go_meet
                  case rel => exact ⟨_, H', ⟨by first | omega | exact Nat.le_refl _⟩, by repeat (first | exact Drawn0.refl _ | apply Drawn0.step)⟩
          · rw [if_neg c7] at H
            exact absurd H (by simp)
        · rw [if_neg c6] at H
          exact absurd H (by simp)
      · rw [if_neg c5] at H
        exact absurd H (by simp)
    · rw [if_neg c4] at H
      have c4b0 : decide ((wrap64 (a1 + 1)) < (a0.size : Int)) = false := decide_eq_false c4
      clear c4
      (first | rw [c4b0] | (simp only [i64_w, i32_w]; rw [c4b0]) | skip)
      have H' := Aside0.mk H
      clear H
      go_wp2
      go_meet
      case rel => exact ⟨_, H', ⟨by first | omega | exact Nat.le_refl _⟩, by repeat (first | exact Drawn0.refl _ | apply Drawn0.step)⟩
  case rest =>
    clear HC3
    try clear c1
    try clear c2
    try clear p2
    try clear c4
    try clear c4b0
    try clear c5
    try clear c5b0
    try clear c5b1
    try clear c6
    try clear c6b0
    try clear c6b1
    try clear p6
    try clear c7
    try clear c7b0
    try clear c7b1
    try clear c8
    try clear c8b0
    try clear c8b1
    try clear c9
    try clear c9b0
    try clear c9b1
    try clear c10
    try clear c10b0
    try clear c10b1
    obtain ⟨kq, HA, HJ2, ⟨mc2, rfl⟩⟩ := hcut
    cases kq with
    | zero => exact absurd HA.out (by simp [lex_sign.j0])
    | succ kj2 =>
      have H := HA.out
      clear HA
      simp only [lex_sign.j0] at H
      by_cases c11 : 0 ≤ a1
      · rw [if_pos c11] at H
        have c11b0 : decide (0 ≤ a1) = true := decide_eq_true c11
        clear c11
        by_cases c12 : a1 < (a0.size : Int)
        · rw [if_pos c12] at H
          have c12b0 : decide (a1 < (a0.size : Int)) = true := decide_eq_true c12
          clear c12
          by_cases c14 : (bt a0 a1) = 59
          · rw [if_pos c14] at H
            have c14b0 : ((bt a0 a1) == 59) = true := beq_iff_eq.mpr c14
            have c14b1 : ((bt a0 a1) != 59) = false := bne_eq_false_iff_eq.mpr c14
            clear c14
            have c15b0 := eq_true (of_decide_eq_true (by first | (with_reducible assumption) | assumption) : 0 ≤ a1)
            by_cases c16 : a1 ≤ (wrap64 (a1 + 1))
            · rw [if_pos c16] at H
              have c16b0 := eq_true c16
              have c16b1 : decide (a1 ≤ (wrap64 (a1 + 1))) = true := decide_eq_true c16
              by_cases c17 : (wrap64 (a1 + 1)) ≤ (a0.size : Int)
              · rw [if_pos c17] at H
                have c17b0 := eq_true c17
                have c17b1 : decide ((wrap64 (a1 + 1)) ≤ (a0.size : Int)) = true := decide_eq_true c17
                obtain rfl := Option.some.inj H
                have p13 : 0 ≤ (a1 : Int) := of_decide_eq_true (by first | (with_reducible assumption) | assumption)
                have q13 : a1 < (a0.size : Int) := of_decide_eq_true (by first | (with_reducible assumption) | assumption)
                have hx13 := bt_at a0 a1
                replace p13 := eq_true p13
                replace q13 := eq_true q13
                go_wp2
                go_ret
                exact ⟨by first | rfl | (simp; done) | (simp [*]; done), by repeat (first | exact Drawn0.refl _ | apply Drawn0.step)⟩
              · rw [if_neg c17] at H
                exact absurd H (by simp)
            · rw [if_neg c16] at H
              exact absurd H (by simp)
          · rw [if_neg c14] at H
            have c14b0 : ((bt a0 a1) == 59) = false := beq_eq_false_iff_ne.mpr c14
            have c14b1 : ((bt a0 a1) != 59) = true := bne_iff_ne.mpr c14
            by_cases c18 : (bt a0 a1) = 61
            · rw [if_pos c18] at H
              have c18b0 : ((bt a0 a1) == 61) = true := beq_iff_eq.mpr c18
              have c18b1 : ((bt a0 a1) != 61) = false := bne_eq_false_iff_eq.mpr c18
              clear c18
              have c19b0 := eq_true (of_decide_eq_true (by first | (with_reducible assumption) | assumption) : 0 ≤ a1)
              by_cases c20 : a1 ≤ (wrap64 (a1 + 1))
              · rw [if_pos c20] at H
                have c20b0 := eq_true c20
                have c20b1 : decide (a1 ≤ (wrap64 (a1 + 1))) = true := decide_eq_true c20
                by_cases c21 : (wrap64 (a1 + 1)) ≤ (a0.size : Int)
                · rw [if_pos c21] at H
                  have c21b0 := eq_true c21
                  have c21b1 : decide ((wrap64 (a1 + 1)) ≤ (a0.size : Int)) = true := decide_eq_true c21
                  obtain rfl := Option.some.inj H
                  have p13 : 0 ≤ (a1 : Int) := of_decide_eq_true (by first | (with_reducible assumption) | assumption)
                  have q13 : a1 < (a0.size : Int) := of_decide_eq_true (by first | (with_reducible assumption) | assumption)
                  have hx13 := bt_at a0 a1
                  replace p13 := eq_true p13
                  replace q13 := eq_true q13
                  go_wp2
                  go_ret
                  exact ⟨by first | rfl | (simp; done) | (simp [*]; done), by repeat (first | exact Drawn0.refl _ | apply Drawn0.step)⟩
                · rw [if_neg c21] at H
                  exact absurd H (by simp)
              · rw [if_neg c20] at H
                exact absurd H (by simp)
            · rw [if_neg c18] at H
              have c18b0 : ((bt a0 a1) == 61) = false := beq_eq_false_iff_ne.mpr c18
              have c18b1 : ((bt a0 a1) != 61) = true := bne_iff_ne.mpr c18
              by_cases c22 : (bt a0 a1) = 91
              · rw [if_pos c22] at H
                have c22b0 : ((bt a0 a1) == 91) = true := beq_iff_eq.mpr c22
                have c22b1 : ((bt a0 a1) != 91) = false := bne_eq_false_iff_eq.mpr c22
                clear c22
                have c23b0 := eq_true (of_decide_eq_true (by first | (with_reducible assumption) | assumption) : 0 ≤ a1)
                by_cases c24 : a1 ≤ (wrap64 (a1 + 1))
                · rw [if_pos c24] at H
                  have c24b0 := eq_true c24
                  have c24b1 : decide (a1 ≤ (wrap64 (a1 + 1))) = true := decide_eq_true c24
                  by_cases c25 : (wrap64 (a1 + 1)) ≤ (a0.size : Int)
                  · rw [if_pos c25] at H
                    have c25b0 := eq_true c25
                    have c25b1 : decide ((wrap64 (a1 + 1)) ≤ (a0.size : Int)) = true := decide_eq_true c25
                    obtain rfl := Option.some.inj H
                    have p13 : 0 ≤ (a1 : Int) := of_decide_eq_true (by first | (with_reducible assumption) | assumption)
                    have q13 : a1 < (a0.size : Int) := of_decide_eq_true (by first | (with_reducible assumption) | assumption)
                    have hx13 := bt_at a0 a1
                    replace p13 := eq_true p13
                    replace q13 := eq_true q13
                    go_wp2
                    go_ret
                    exact ⟨by first | rfl | (simp; done) | (simp [*]; done), by repeat (first | exact Drawn0.refl _ | apply Drawn0.step)⟩
                  · rw [if_neg c25] at H
                    exact absurd H (by simp)
                · rw [if_neg c24] at H
                  exact absurd H (by simp)
              · rw [if_neg c22] at H
                have c22b0 : ((bt a0 a1) == 91) = false := beq_eq_false_iff_ne.mpr c22
                have c22b1 : ((bt a0 a1) != 91) = true := bne_iff_ne.mpr c22
                by_cases c26 : (bt a0 a1) = 93
                · rw [if_pos c26] at H
                  have c26b0 : ((bt a0 a1) == 93) = true := beq_iff_eq.mpr c26
                  have c26b1 : ((bt a0 a1) != 93) = false := bne_eq_false_iff_eq.mpr c26
                  clear c26
                  have c27b0 := eq_true (of_decide_eq_true (by first | (with_reducible assumption) | assumption) : 0 ≤ a1)
                  by_cases c28 : a1 ≤ (wrap64 (a1 + 1))
                  · rw [if_pos c28] at H
                    have c28b0 := eq_true c28
                    have c28b1 : decide (a1 ≤ (wrap64 (a1 + 1))) = true := decide_eq_true c28
                    by_cases c29 : (wrap64 (a1 + 1)) ≤ (a0.size : Int)
                    · rw [if_pos c29] at H
                      have c29b0 := eq_true c29
                      have c29b1 : decide ((wrap64 (a1 + 1)) ≤ (a0.size : Int)) = true := decide_eq_true c29
                      obtain rfl := Option.some.inj H
                      have p13 : 0 ≤ (a1 : Int) := of_decide_eq_true (by first | (with_reducible assumption) | assumption)
                      have q13 : a1 < (a0.size : Int) := of_decide_eq_true (by first | (with_reducible assumption) | assumption)
                      have hx13 := bt_at a0 a1
                      replace p13 := eq_true p13
                      replace q13 := eq_true q13
                      go_wp2
                      go_ret
                      exact ⟨by first | rfl | (simp; done) | (simp [*]; done), by repeat (first | exact Drawn0.refl _ | apply Drawn0.step)⟩
                    · rw [if_neg c29] at H
                      exact absurd H (by simp)
                  · rw [if_neg c28] at H
                    exact absurd H (by simp)
                · rw [if_neg c26] at H
                  have c26b0 : ((bt a0 a1) == 93) = false := beq_eq_false_iff_ne.mpr c26
                  have c26b1 : ((bt a0 a1) != 93) = true := bne_iff_ne.mpr c26
                  by_cases c30 : (bt a0 a1) = 123
                  · rw [if_pos c30] at H
                    have c30b0 : ((bt a0 a1) == 123) = true := beq_iff_eq.mpr c30
                    have c30b1 : ((bt a0 a1) != 123) = false := bne_eq_false_iff_eq.mpr c30
                    clear c30
                    have c31b0 := eq_true (of_decide_eq_true (by first | (with_reducible assumption) | assumption) : 0 ≤ a1)
                    by_cases c32 : a1 ≤ (wrap64 (a1 + 1))
                    · rw [if_pos c32] at H
                      have c32b0 := eq_true c32
                      have c32b1 : decide (a1 ≤ (wrap64 (a1 + 1))) = true := decide_eq_true c32
                      by_cases c33 : (wrap64 (a1 + 1)) ≤ (a0.size : Int)
                      · rw [if_pos c33] at H
                        have c33b0 := eq_true c33
                        have c33b1 : decide ((wrap64 (a1 + 1)) ≤ (a0.size : Int)) = true := decide_eq_true c33
                        obtain rfl := Option.some.inj H
                        have p13 : 0 ≤ (a1 : Int) := of_decide_eq_true (by first | (with_reducible assumption) | assumption)
                        have q13 : a1 < (a0.size : Int) := of_decide_eq_true (by first | (with_reducible assumption) | assumption)
                        have hx13 := bt_at a0 a1
                        replace p13 := eq_true p13
                        replace q13 := eq_true q13
                        go_wp2
                        go_ret
                        exact ⟨by first | rfl | (simp; done) | (simp [*]; done), by repeat (first | exact Drawn0.refl _ | apply Drawn0.step)⟩
                      · rw [if_neg c33] at H
                        exact absurd H (by simp)
                    · rw [if_neg c32] at H
                      exact absurd H (by simp)
                  · rw [if_neg c30] at H
                    have c30b0 : ((bt a0 a1) == 123) = false := beq_eq_false_iff_ne.mpr c30
                    have c30b1 : ((bt a0 a1) != 123) = true := bne_iff_ne.mpr c30
                    by_cases c34 : (bt a0 a1) = 125
                    · rw [if_pos c34] at H
                      have c34b0 : ((bt a0 a1) == 125) = true := beq_iff_eq.mpr c34
                      have c34b1 : ((bt a0 a1) != 125) = false := bne_eq_false_iff_eq.mpr c34
                      clear c34
                      have c35b0 := eq_true (of_decide_eq_true (by first | (with_reducible assumption) | assumption) : 0 ≤ a1)
                      by_cases c36 : a1 ≤ (wrap64 (a1 + 1))
                      · rw [if_pos c36] at H
                        have c36b0 := eq_true c36
                        have c36b1 : decide (a1 ≤ (wrap64 (a1 + 1))) = true := decide_eq_true c36
                        by_cases c37 : (wrap64 (a1 + 1)) ≤ (a0.size : Int)
                        · rw [if_pos c37] at H
                          have c37b0 := eq_true c37
                          have c37b1 : decide ((wrap64 (a1 + 1)) ≤ (a0.size : Int)) = true := decide_eq_true c37
                          obtain rfl := Option.some.inj H
                          have p13 : 0 ≤ (a1 : Int) := of_decide_eq_true (by first | (with_reducible assumption) | assumption)
                          have q13 : a1 < (a0.size : Int) := of_decide_eq_true (by first | (with_reducible assumption) | assumption)
                          have hx13 := bt_at a0 a1
                          replace p13 := eq_true p13
                          replace q13 := eq_true q13
                          go_wp2
                          go_ret
                          exact ⟨by first | rfl | (simp; done) | (simp [*]; done), by repeat (first | exact Drawn0.refl _ | apply Drawn0.step)⟩
                        · rw [if_neg c37] at H
                          exact absurd H (by simp)
                      · rw [if_neg c36] at H
                        exact absurd H (by simp)
                    · rw [if_neg c34] at H
                      have c34b0 : ((bt a0 a1) == 125) = false := beq_eq_false_iff_ne.mpr c34
                      have c34b1 : ((bt a0 a1) != 125) = true := bne_iff_ne.mpr c34
                      by_cases c38 : (bt a0 a1) = 40
                      · rw [if_pos c38] at H
                        have c38b0 : ((bt a0 a1) == 40) = true := beq_iff_eq.mpr c38
                        have c38b1 : ((bt a0 a1) != 40) = false := bne_eq_false_iff_eq.mpr c38
                        clear c38
                        have c39b0 := eq_true (of_decide_eq_true (by first | (with_reducible assumption) | assumption) : 0 ≤ a1)
                        by_cases c40 : a1 ≤ (wrap64 (a1 + 1))
                        · rw [if_pos c40] at H
                          have c40b0 := eq_true c40
                          have c40b1 : decide (a1 ≤ (wrap64 (a1 + 1))) = true := decide_eq_true c40
                          by_cases c41 : (wrap64 (a1 + 1)) ≤ (a0.size : Int)
                          · rw [if_pos c41] at H
                            have c41b0 := eq_true c41
                            have c41b1 : decide ((wrap64 (a1 + 1)) ≤ (a0.size : Int)) = true := decide_eq_true c41
                            obtain rfl := Option.some.inj H
                            have p13 : 0 ≤ (a1 : Int) := of_decide_eq_true (by first | (with_reducible assumption) | assumption)
                            have q13 : a1 < (a0.size : Int) := of_decide_eq_true (by first | (with_reducible assumption) | assumption)
                            have hx13 := bt_at a0 a1
                            replace p13 := eq_true p13
                            replace q13 := eq_true q13
                            go_wp2
                            go_ret
                            exact ⟨by first | rfl | (simp; done) | (simp [*]; done), by repeat (first | exact Drawn0.refl _ | apply Drawn0.step)⟩
                          · rw [if_neg c41] at H
                            exact absurd H (by simp)
                        · rw [if_neg c40] at H
                          exact absurd H (by simp)
                      · rw [if_neg c38] at H
                        have c38b0 : ((bt a0 a1) == 40) = false := beq_eq_false_iff_ne.mpr c38
                        have c38b1 : ((bt a0 a1) != 40) = true := bne_iff_ne.mpr c38
                        by_cases c42 : (bt a0 a1) = 41
                        · rw [if_pos c42] at H
                          have c42b0 : ((bt a0 a1) == 41) = true := beq_iff_eq.mpr c42
                          have c42b1 : ((bt a0 a1) != 41) = false := bne_eq_false_iff_eq.mpr c42
                          clear c42
                          have c43b0 := eq_true (of_decide_eq_true (by first | (with_reducible assumption) | assumption) : 0 ≤ a1)
                          by_cases c44 : a1 ≤ (wrap64 (a1 + 1))
                          · rw [if_pos c44] at H
                            have c44b0 := eq_true c44
                            have c44b1 : decide (a1 ≤ (wrap64 (a1 + 1))) = true := decide_eq_true c44
                            by_cases c45 : (wrap64 (a1 + 1)) ≤ (a0.size : Int)
                            · rw [if_pos c45] at H
                              have c45b0 := eq_true c45
                              have c45b1 : decide ((wrap64 (a1 + 1)) ≤ (a0.size : Int)) = true := decide_eq_true c45
                              obtain rfl := Option.some.inj H
                              have p13 : 0 ≤ (a1 : Int) := of_decide_eq_true (by first | (with_reducible assumption) | assumption)
                              have q13 : a1 < (a0.size : Int) := of_decide_eq_true (by first | (with_reducible assumption) | assumption)
                              have hx13 := bt_at a0 a1
                              replace p13 := eq_true p13
                              replace q13 := eq_true q13
                              go_wp2
                              go_ret
                              exact ⟨by first | rfl | (simp; done) | (simp [*]; done), by repeat (first | exact Drawn0.refl _ | apply Drawn0.step)⟩
                            · rw [if_neg c45] at H
                              exact absurd H (by simp)
                          · rw [if_neg c44] at H
                            exact absurd H (by simp)
                        · rw [if_neg c42] at H
                          have c42b0 : ((bt a0 a1) == 41) = false := beq_eq_false_iff_ne.mpr c42
                          have c42b1 : ((bt a0 a1) != 41) = true := bne_iff_ne.mpr c42
                          by_cases c46 : (bt a0 a1) = 44
                          · rw [if_pos c46] at H
                            have c46b0 : ((bt a0 a1) == 44) = true := beq_iff_eq.mpr c46
                            have c46b1 : ((bt a0 a1) != 44) = false := bne_eq_false_iff_eq.mpr c46
                            clear c46
                            have c47b0 := eq_true (of_decide_eq_true (by first | (with_reducible assumption) | assumption) : 0 ≤ a1)
                            by_cases c48 : a1 ≤ (wrap64 (a1 + 1))
                            · rw [if_pos c48] at H
                              have c48b0 := eq_true c48
                              have c48b1 : decide (a1 ≤ (wrap64 (a1 + 1))) = true := decide_eq_true c48
                              by_cases c49 : (wrap64 (a1 + 1)) ≤ (a0.size : Int)
                              · rw [if_pos c49] at H
                                have c49b0 := eq_true c49
                                have c49b1 : decide ((wrap64 (a1 + 1)) ≤ (a0.size : Int)) = true := decide_eq_true c49
                                obtain rfl := Option.some.inj H
                                have p13 : 0 ≤ (a1 : Int) := of_decide_eq_true (by first | (with_reducible assumption) | assumption)
                                have q13 : a1 < (a0.size : Int) := of_decide_eq_true (by first | (with_reducible assumption) | assumption)
                                have hx13 := bt_at a0 a1
                                replace p13 := eq_true p13
                                replace q13 := eq_true q13
                                go_wp2
                                go_ret
                                exact ⟨by first | rfl | (simp; done) | (simp [*]; done), by repeat (first | exact Drawn0.refl _ | apply Drawn0.step)⟩
                              · rw [if_neg c49] at H
                                exact absurd H (by simp)
                            · rw [if_neg c48] at H
                              exact absurd H (by simp)
                          · rw [if_neg c46] at H
                            have c46b0 : ((bt a0 a1) == 44) = false := beq_eq_false_iff_ne.mpr c46
                            have c46b1 : ((bt a0 a1) != 44) = true := bne_iff_ne.mpr c46
                            by_cases c50 : (bt a0 a1) = 43
                            · rw [if_pos c50] at H
                              have c50b0 : ((bt a0 a1) == 43) = true := beq_iff_eq.mpr c50
                              have c50b1 : ((bt a0 a1) != 43) = false := bne_eq_false_iff_eq.mpr c50
                              clear c50
                              have c51b0 := eq_true (of_decide_eq_true (by first | (with_reducible assumption) | assumption) : 0 ≤ a1)
                              by_cases c52 : a1 ≤ (wrap64 (a1 + 1))
                              · rw [if_pos c52] at H
                                have c52b0 := eq_true c52
                                have c52b1 : decide (a1 ≤ (wrap64 (a1 + 1))) = true := decide_eq_true c52
                                by_cases c53 : (wrap64 (a1 + 1)) ≤ (a0.size : Int)
                                · rw [if_pos c53] at H
                                  have c53b0 := eq_true c53
                                  have c53b1 : decide ((wrap64 (a1 + 1)) ≤ (a0.size : Int)) = true := decide_eq_true c53
                                  obtain rfl := Option.some.inj H
                                  have p13 : 0 ≤ (a1 : Int) := of_decide_eq_true (by first | (with_reducible assumption) | assumption)
                                  have q13 : a1 < (a0.size : Int) := of_decide_eq_true (by first | (with_reducible assumption) | assumption)
                                  have hx13 := bt_at a0 a1
                                  replace p13 := eq_true p13
                                  replace q13 := eq_true q13
                                  go_wp2
                                  go_ret
                                  exact ⟨by first | rfl | (simp; done) | (simp [*]; done), by repeat (first | exact Drawn0.refl _ | apply Drawn0.step)⟩
                                · rw [if_neg c53] at H
                                  exact absurd H (by simp)
                              · rw [if_neg c52] at H
                                exact absurd H (by simp)
                            · rw [if_neg c50] at H
                              have c50b0 : ((bt a0 a1) == 43) = false := beq_eq_false_iff_ne.mpr c50
                              have c50b1 : ((bt a0 a1) != 43) = true := bne_iff_ne.mpr c50
                              by_cases c54 : (bt a0 a1) = 45
                              · rw [if_pos c54] at H
                                have c54b0 : ((bt a0 a1) == 45) = true := beq_iff_eq.mpr c54
                                have c54b1 : ((bt a0 a1) != 45) = false := bne_eq_false_iff_eq.mpr c54
                                clear c54
                                have c55b0 := eq_true (of_decide_eq_true (by first | (with_reducible assumption) | assumption) : 0 ≤ a1)
                                by_cases c56 : a1 ≤ (wrap64 (a1 + 1))
                                · rw [if_pos c56] at H
                                  have c56b0 := eq_true c56
                                  have c56b1 : decide (a1 ≤ (wrap64 (a1 + 1))) = true := decide_eq_true c56
                                  by_cases c57 : (wrap64 (a1 + 1)) ≤ (a0.size : Int)
                                  · rw [if_pos c57] at H
                                    have c57b0 := eq_true c57
                                    have c57b1 : decide ((wrap64 (a1 + 1)) ≤ (a0.size : Int)) = true := decide_eq_true c57
                                    obtain rfl := Option.some.inj H
                                    have p13 : 0 ≤ (a1 : Int) := of_decide_eq_true (by first | (with_reducible assumption) | assumption)
                                    have q13 : a1 < (a0.size : Int) := of_decide_eq_true (by first | (with_reducible assumption) | assumption)
                                    have hx13 := bt_at a0 a1
                                    replace p13 := eq_true p13
                                    replace q13 := eq_true q13
                                    go_wp2
                                    go_ret
                                    exact ⟨by first | rfl | (simp; done) | (simp [*]; done), by repeat (first | exact Drawn0.refl _ | apply Drawn0.step)⟩
                                  · rw [if_neg c57] at H
                                    exact absurd H (by simp)
                                · rw [if_neg c56] at H
                                  exact absurd H (by simp)
                              · rw [if_neg c54] at H
                                have c54b0 : ((bt a0 a1) == 45) = false := beq_eq_false_iff_ne.mpr c54
                                have c54b1 : ((bt a0 a1) != 45) = true := bne_iff_ne.mpr c54
                                by_cases c58 : (bt a0 a1) = 42
                                · rw [if_pos c58] at H
                                  have c58b0 : ((bt a0 a1) == 42) = true := beq_iff_eq.mpr c58
                                  have c58b1 : ((bt a0 a1) != 42) = false := bne_eq_false_iff_eq.mpr c58
                                  clear c58
                                  have c59b0 := eq_true (of_decide_eq_true (by first | (with_reducible assumption) | assumption) : 0 ≤ a1)
                                  by_cases c60 : a1 ≤ (wrap64 (a1 + 1))
                                  · rw [if_pos c60] at H
                                    have c60b0 := eq_true c60
                                    have c60b1 : decide (a1 ≤ (wrap64 (a1 + 1))) = true := decide_eq_true c60
                                    by_cases c61 : (wrap64 (a1 + 1)) ≤ (a0.size : Int)
                                    · rw [if_pos c61] at H
                                      have c61b0 := eq_true c61
                                      have c61b1 : decide ((wrap64 (a1 + 1)) ≤ (a0.size : Int)) = true := decide_eq_true c61
                                      obtain rfl := Option.some.inj H
                                      have p13 : 0 ≤ (a1 : Int) := of_decide_eq_true (by first | (with_reducible assumption) | assumption)
                                      have q13 : a1 < (a0.size : Int) := of_decide_eq_true (by first | (with_reducible assumption) | assumption)
                                      have hx13 := bt_at a0 a1
                                      replace p13 := eq_true p13
                                      replace q13 := eq_true q13
                                      go_wp2
                                      go_ret
                                      exact ⟨by first | rfl | (simp; done) | (simp [*]; done), by repeat (first | exact Drawn0.refl _ | apply Drawn0.step)⟩
                                    · rw [if_neg c61] at H
                                      exact absurd H (by simp)
                                  · rw [if_neg c60] at H
                                    exact absurd H (by simp)
                                · rw [if_neg c58] at H
                                  have c58b0 : ((bt a0 a1) == 42) = false := beq_eq_false_iff_ne.mpr c58
                                  have c58b1 : ((bt a0 a1) != 42) = true := bne_iff_ne.mpr c58
                                  by_cases c62 : (bt a0 a1) = 38
                                  · rw [if_pos c62] at H
                                    have c62b0 : ((bt a0 a1) == 38) = true := beq_iff_eq.mpr c62
                                    have c62b1 : ((bt a0 a1) != 38) = false := bne_eq_false_iff_eq.mpr c62
                                    clear c62
                                    have c63b0 := eq_true (of_decide_eq_true (by first | (with_reducible assumption) | assumption) : 0 ≤ a1)
                                    by_cases c64 : a1 ≤ (wrap64 (a1 + 1))
                                    · rw [if_pos c64] at H
                                      have c64b0 := eq_true c64
                                      have c64b1 : decide (a1 ≤ (wrap64 (a1 + 1))) = true := decide_eq_true c64
                                      by_cases c65 : (wrap64 (a1 + 1)) ≤ (a0.size : Int)
                                      · rw [if_pos c65] at H
                                        have c65b0 := eq_true c65
                                        have c65b1 : decide ((wrap64 (a1 + 1)) ≤ (a0.size : Int)) = true := decide_eq_true c65
                                        obtain rfl := Option.some.inj H
                                        have p13 : 0 ≤ (a1 : Int) := of_decide_eq_true (by first | (with_reducible assumption) | assumption)
                                        have q13 : a1 < (a0.size : Int) := of_decide_eq_true (by first | (with_reducible assumption) | assumption)
                                        have hx13 := bt_at a0 a1
                                        replace p13 := eq_true p13
                                        replace q13 := eq_true q13
                                        go_wp2
                                        go_ret
                                        exact ⟨by first | rfl | (simp; done) | (simp [*]; done), by repeat (first | exact Drawn0.refl _ | apply Drawn0.step)⟩
                                      · rw [if_neg c65] at H
                                        exact absurd H (by simp)
                                    · rw [if_neg c64] at H
                                      exact absurd H (by simp)
                                  · rw [if_neg c62] at H
                                    have c62b0 : ((bt a0 a1) == 38) = false := beq_eq_false_iff_ne.mpr c62
                                    have c62b1 : ((bt a0 a1) != 38) = true := bne_iff_ne.mpr c62
                                    by_cases c66 : (bt a0 a1) = 124
                                    · rw [if_pos c66] at H
                                      have c66b0 : ((bt a0 a1) == 124) = true := beq_iff_eq.mpr c66
                                      have c66b1 : ((bt a0 a1) != 124) = false := bne_eq_false_iff_eq.mpr c66
                                      clear c66
                                      have c67b0 := eq_true (of_decide_eq_true (by first | (with_reducible assumption) | assumption) : 0 ≤ a1)
                                      by_cases c68 : a1 ≤ (wrap64 (a1 + 1))
                                      · rw [if_pos c68] at H
                                        have c68b0 := eq_true c68
                                        have c68b1 : decide (a1 ≤ (wrap64 (a1 + 1))) = true := decide_eq_true c68
                                        by_cases c69 : (wrap64 (a1 + 1)) ≤ (a0.size : Int)
                                        · rw [if_pos c69] at H
                                          have c69b0 := eq_true c69
                                          have c69b1 : decide ((wrap64 (a1 + 1)) ≤ (a0.size : Int)) = true := decide_eq_true c69
                                          obtain rfl := Option.some.inj H
                                          have p13 : 0 ≤ (a1 : Int) := of_decide_eq_true (by first | (with_reducible assumption) | assumption)
                                          have q13 : a1 < (a0.size : Int) := of_decide_eq_true (by first | (with_reducible assumption) | assumption)
                                          have hx13 := bt_at a0 a1
                                          replace p13 := eq_true p13
                                          replace q13 := eq_true q13
                                          go_wp2
                                          go_ret
                                          exact ⟨by first | rfl | (simp; done) | (simp [*]; done), by repeat (first | exact Drawn0.refl _ | apply Drawn0.step)⟩
                                        · rw [if_neg c69] at H
                                          exact absurd H (by simp)
                                      · rw [if_neg c68] at H
                                        exact absurd H (by simp)
                                    · rw [if_neg c66] at H
                                      have c66b0 : ((bt a0 a1) == 124) = false := beq_eq_false_iff_ne.mpr c66
                                      have c66b1 : ((bt a0 a1) != 124) = true := bne_iff_ne.mpr c66
                                      by_cases c70 : (bt a0 a1) = 94
                                      · rw [if_pos c70] at H
                                        have c70b0 : ((bt a0 a1) == 94) = true := beq_iff_eq.mpr c70
                                        have c70b1 : ((bt a0 a1) != 94) = false := bne_eq_false_iff_eq.mpr c70
                                        clear c70
                                        have c71b0 := eq_true (of_decide_eq_true (by first | (with_reducible assumption) | assumption) : 0 ≤ a1)
                                        by_cases c72 : a1 ≤ (wrap64 (a1 + 1))
                                        · rw [if_pos c72] at H
                                          have c72b0 := eq_true c72
                                          have c72b1 : decide (a1 ≤ (wrap64 (a1 + 1))) = true := decide_eq_true c72
                                          by_cases c73 : (wrap64 (a1 + 1)) ≤ (a0.size : Int)
                                          · rw [if_pos c73] at H
                                            have c73b0 := eq_true c73
                                            have c73b1 : decide ((wrap64 (a1 + 1)) ≤ (a0.size : Int)) = true := decide_eq_true c73
                                            obtain rfl := Option.some.inj H
                                            have p13 : 0 ≤ (a1 : Int) := of_decide_eq_true (by first | (with_reducible assumption) | assumption)
                                            have q13 : a1 < (a0.size : Int) := of_decide_eq_true (by first | (with_reducible assumption) | assumption)
                                            have hx13 := bt_at a0 a1
                                            replace p13 := eq_true p13
                                            replace q13 := eq_true q13
                                            go_wp2
                                            go_ret
                                            exact ⟨by first | rfl | (simp; done) | (simp [*]; done), by repeat (first | exact Drawn0.refl _ | apply Drawn0.step)⟩
                                          · rw [if_neg c73] at H
                                            exact absurd H (by simp)
                                        · rw [if_neg c72] at H
                                          exact absurd H (by simp)
                                      · rw [if_neg c70] at H
                                        have c70b0 : ((bt a0 a1) == 94) = false := beq_eq_false_iff_ne.mpr c70
                                        have c70b1 : ((bt a0 a1) != 94) = true := bne_iff_ne.mpr c70
                                        by_cases c74 : (bt a0 a1) = 60
                                        · rw [if_pos c74] at H
                                          have c74b0 : ((bt a0 a1) == 60) = true := beq_iff_eq.mpr c74
                                          have c74b1 : ((bt a0 a1) != 60) = false := bne_eq_false_iff_eq.mpr c74
                                          clear c74
                                          have c75b0 := eq_true (of_decide_eq_true (by first | (with_reducible assumption) | assumption) : 0 ≤ a1)
                                          by_cases c76 : a1 ≤ (wrap64 (a1 + 1))
                                          · rw [if_pos c76] at H
                                            have c76b0 := eq_true c76
                                            have c76b1 : decide (a1 ≤ (wrap64 (a1 + 1))) = true := decide_eq_true c76
                                            by_cases c77 : (wrap64 (a1 + 1)) ≤ (a0.size : Int)
                                            · rw [if_pos c77] at H
                                              have c77b0 := eq_true c77
                                              have c77b1 : decide ((wrap64 (a1 + 1)) ≤ (a0.size : Int)) = true := decide_eq_true c77
                                              obtain rfl := Option.some.inj H
                                              have p13 : 0 ≤ (a1 : Int) := of_decide_eq_true (by first | (with_reducible assumption) | assumption)
                                              have q13 : a1 < (a0.size : Int) := of_decide_eq_true (by first | (with_reducible assumption) | assumption)
                                              have hx13 := bt_at a0 a1
                                              replace p13 := eq_true p13
                                              replace q13 := eq_true q13
                                              go_wp2
                                              go_ret
                                              exact ⟨by first | rfl | (simp; done) | (simp [*]; done), by repeat (first | exact Drawn0.refl _ | apply Drawn0.step)⟩
                                            · rw [if_neg c77] at H
                                              exact absurd H (by simp)
                                          · rw [if_neg c76] at H
                                            exact absurd H (by simp)
                                        · rw [if_neg c74] at H
                                          have c74b0 : ((bt a0 a1) == 60) = false := beq_eq_false_iff_ne.mpr c74
                                          have c74b1 : ((bt a0 a1) != 60) = true := bne_iff_ne.mpr c74
                                          by_cases c78 : (bt a0 a1) = 126
                                          · rw [if_pos c78] at H
                                            have c78b0 : ((bt a0 a1) == 126) = true := beq_iff_eq.mpr c78
                                            have c78b1 : ((bt a0 a1) != 126) = false := bne_eq_false_iff_eq.mpr c78
                                            clear c78
                                            have c79b0 := eq_true (of_decide_eq_true (by first | (with_reducible assumption) | assumption) : 0 ≤ a1)
                                            by_cases c80 : a1 ≤ (wrap64 (a1 + 1))
                                            · rw [if_pos c80] at H
                                              have c80b0 := eq_true c80
                                              have c80b1 : decide (a1 ≤ (wrap64 (a1 + 1))) = true := decide_eq_true c80
                                              by_cases c81 : (wrap64 (a1 + 1)) ≤ (a0.size : Int)
                                              · rw [if_pos c81] at H
                                                have c81b0 := eq_true c81
                                                have c81b1 : decide ((wrap64 (a1 + 1)) ≤ (a0.size : Int)) = true := decide_eq_true c81
                                                obtain rfl := Option.some.inj H
                                                have p13 : 0 ≤ (a1 : Int) := of_decide_eq_true (by first | (with_reducible assumption) | assumption)
                                                have q13 : a1 < (a0.size : Int) := of_decide_eq_true (by first | (with_reducible assumption) | assumption)
                                                have hx13 := bt_at a0 a1
                                                replace p13 := eq_true p13
                                                replace q13 := eq_true q13
                                                go_wp2
                                                go_ret
                                                exact ⟨by first | rfl | (simp; done) | (simp [*]; done), by repeat (first | exact Drawn0.refl _ | apply Drawn0.step)⟩
                                              · rw [if_neg c81] at H
                                                exact absurd H (by simp)
                                            · rw [if_neg c80] at H
                                              exact absurd H (by simp)
                                          · rw [if_neg c78] at H
                                            have c78b0 : ((bt a0 a1) == 126) = false := beq_eq_false_iff_ne.mpr c78
                                            have c78b1 : ((bt a0 a1) != 126) = true := bne_iff_ne.mpr c78
                                            obtain rfl := Option.some.inj H
                                            have p13 : 0 ≤ (a1 : Int) := of_decide_eq_true (by first | (with_reducible assumption) | assumption)
                                            have q13 : a1 < (a0.size : Int) := of_decide_eq_true (by first | (with_reducible assumption) | assumption)
                                            have hx13 := bt_at a0 a1
                                            replace p13 := eq_true p13
                                            replace q13 := eq_true q13
                                            go_wp2
                                            go_ret
                                            exact ⟨by first | rfl | (simp; done) | (simp [*]; done), by repeat (first | exact Drawn0.refl _ | apply Drawn0.step)⟩
        · rw [if_neg c12] at H
          exact absurd H (by simp)
      · rw [if_neg c11] at H
        exact absurd H (by simp)

-- NOT PRINTED: function 10 (lex_Cut)

-- NOT PRINTED: function 33 (reflectlite_ValueOf)

-- NOT PRINTED: function 34 (reflectlite_Value_Type)

-- NOT PRINTED: function 35 (reflectlite_Value_IsNil)

-- NOT PRINTED: function 39 (reflectlite_TypeOf)

-- NOT PRINTED: function 40 (reflectlite_Value_Elem)

-- NOT PRINTED: function 41 (reflectlite_Value_Set)

-- NOT PRINTED: function 36 (errors_as)

-- NOT PRINTED: function 30 (errors_As)

-- NOT PRINTED: function 13 (api_Number)

-- NOT PRINTED: function 14 (api_Place)

-- NOT PRINTED: function 9 (tautochronelaw03_awake)

/-! ### tautochronelaw03_blank: function 26 -/
def tautochronelaw03_blank.f (a0 : Int) : Option (Bool) := if a0 = 32 then (some true) else (if a0 = 9 then (some true) else (if a0 = 10 then (some true) else (some (a0 == 13))))
set_option maxHeartbeats 8000000 in
set_option maxRecDepth 100000 in
theorem tautochronelaw03_blank.calls (a0 : Int) (r : Bool) (w : World) (h : tautochronelaw03_blank.f a0 = some r) :
    Calls Tryd.prog 26 #[.int .u8 a0] w fun e w' => e = .returned (.bool r) ∧ Drawn0 w w' := by
  have H : (if a0 = 32 then (some true) else (if a0 = 9 then (some true) else (if a0 = 10 then (some true) else (some (a0 == 13))))) = some r := h
  clear h
  by_cases c2 : a0 = 32
  · rw [if_pos c2] at H
    have c2b0 : (a0 == 32) = true := beq_iff_eq.mpr c2
    have c2b1 : (a0 != 32) = false := bne_eq_false_iff_eq.mpr c2
    clear c2
    obtain rfl := Option.some.inj H
    go_enter Tryd.func26, Tryd.ntmps26
    go_wp2
    go_ret
    exact ⟨by first | rfl | (simp; done) | (simp [*]; done), by repeat (first | exact Drawn0.refl _ | apply Drawn0.step)⟩
  · rw [if_neg c2] at H
    have c2b0 : (a0 == 32) = false := beq_eq_false_iff_ne.mpr c2
    have c2b1 : (a0 != 32) = true := bne_iff_ne.mpr c2
    by_cases c3 : a0 = 9
    · rw [if_pos c3] at H
      have c3b0 : (a0 == 9) = true := beq_iff_eq.mpr c3
      have c3b1 : (a0 != 9) = false := bne_eq_false_iff_eq.mpr c3
      clear c3
      obtain rfl := Option.some.inj H
      go_enter Tryd.func26, Tryd.ntmps26
      go_wp2
      go_ret
      exact ⟨by first | rfl | (simp; done) | (simp [*]; done), by repeat (first | exact Drawn0.refl _ | apply Drawn0.step)⟩
    · rw [if_neg c3] at H
      have c3b0 : (a0 == 9) = false := beq_eq_false_iff_ne.mpr c3
      have c3b1 : (a0 != 9) = true := bne_iff_ne.mpr c3
      by_cases c4 : a0 = 10
      · rw [if_pos c4] at H
        have c4b0 : (a0 == 10) = true := beq_iff_eq.mpr c4
        have c4b1 : (a0 != 10) = false := bne_eq_false_iff_eq.mpr c4
        clear c4
        obtain rfl := Option.some.inj H
        go_enter Tryd.func26, Tryd.ntmps26
        go_wp2
        go_ret
        exact ⟨by first | rfl | (simp; done) | (simp [*]; done), by repeat (first | exact Drawn0.refl _ | apply Drawn0.step)⟩
      · rw [if_neg c4] at H
        have c4b0 : (a0 == 10) = false := beq_eq_false_iff_ne.mpr c4
        have c4b1 : (a0 != 10) = true := bne_iff_ne.mpr c4
        obtain rfl := Option.some.inj H
        go_enter Tryd.func26, Tryd.ntmps26
        go_wp2
        go_ret
        exact ⟨by first | rfl | (simp; done) | (simp [*]; done), by repeat (first | exact Drawn0.refl _ | apply Drawn0.step)⟩

end Go.Proofs.YtmklkkpeolnjbaaDoor.PLexCut
