/-
For EncodeTwo: what the Go functions that it reaches compute, as plain Lean functions, and the walks that show it; conditions as each theorem states them. (Written by a program of this session on the kit's print.)
-/
-- PRINTED by print.py (a twelfth state) out of the translation. Not trusted: Lean checks it.
import Derived.Test.YtnnedajhphkphaaPEncodeTwox0
import Derived.Test.YtnnedajhphkphaaPEncodeTwox1
import Derived.Test.YtnnedajhphkphaaPEncodeTwox6
import Derived.Test.YtnnedajhphkphaaPEncodeTwox8
namespace Go.Proofs.Ytnnedajhphkphaa.PEncodeTwo
open Go.RowKit Go.Proofs.YtnnedajhphkphaaW.PrintWords Go.Proofs.YtnnedajhphkphaaW.PrintLast Go.Proofs.YtnnedajhphkphaaW.PrintMore
attribute [local go_sem] max2_int min2_int max_two min_two max_three min_three max_four min_four   -- for this text's walks alone
set_option linter.unusedVariables false
set_option linter.unusedSimpArgs false

attribute [local go_sem high] eqA26
/-! ### tautochronelaw20_EncodeTwo: function 5 -/
def tautochronelaw20_EncodeTwo.f (k : Nat) (a0_0 : Int) (a0_1 : Int) (a0_2 : Int) (a0_3 : Int) (a0_4 : Int) (a0_5 : Int) (a0_6 : Int) (a0_7 : Int) (a1_0 : Int) (a1_1 : Int) (a1_2 : Int) (a1_3 : Int) (a1_4 : Int) (a1_5 : Int) (a1_6 : Int) (a1_7 : Int) : Option (Bool) := (tautochronelaw20_awake.f k).bind fun t219 => (if t219 = true then ((tautochronelaw20_Make.f k a0_0 a0_1 a0_2 a0_3 a0_4 a0_5 a0_6 a0_7).bind fun bt220 => ((tautochronelaw20_Make.f k a1_0 a1_1 a1_2 a1_3 a1_4 a1_5 a1_6 a1_7).bind fun bt228 => ((encode_Encode.f k bt220.1 bt220.2.1 bt220.2.2.1 bt220.2.2.2.1 bt220.2.2.2.2.1 bt220.2.2.2.2.2.1 bt220.2.2.2.2.2.2.1 bt220.2.2.2.2.2.2.2).bind fun bt238 => ((encode_Encode.f k bt228.1 bt228.2.1 bt228.2.2.1 bt228.2.2.2.1 bt228.2.2.2.2.1 bt228.2.2.2.2.2.1 bt228.2.2.2.2.2.2.1 bt228.2.2.2.2.2.2.2).bind fun bt242 => (if bt238.2 = true then (if bt242.2 = true then (some (((strOfNums bt238.1).toList == (strOfNums bt242.1).toList) == (bt220.1 == bt228.1 && (bt220.2.1 == bt228.2.1 && (bt220.2.2.1 == bt228.2.2.1 && (bt220.2.2.2.1 == bt228.2.2.2.1 && (bt220.2.2.2.2.1 == bt228.2.2.2.2.1 && (bt220.2.2.2.2.2.1 == bt228.2.2.2.2.2.1 && (bt220.2.2.2.2.2.2.1 == bt228.2.2.2.2.2.2.1 && (bt220.2.2.2.2.2.2.2 == bt228.2.2.2.2.2.2.2)))))))))) else (some false)) else (some false)))))) else (some false))
theorem tautochronelaw20_EncodeTwo.mono : ∀ a0 a1 a2 a3 a4 a5 a6 a7 a8 a9 a10 a11 a12 a13 a14 a15 k, LeO (tautochronelaw20_EncodeTwo.f k a0 a1 a2 a3 a4 a5 a6 a7 a8 a9 a10 a11 a12 a13 a14 a15) (tautochronelaw20_EncodeTwo.f (k + 1) a0 a1 a2 a3 a4 a5 a6 a7 a8 a9 a10 a11 a12 a13 a14 a15) := by
  intro a0 a1 a2 a3 a4 a5 a6 a7 a8 a9 a10 a11 a12 a13 a14 a15 k
  unfold tautochronelaw20_EncodeTwo.f
  repeat' first
      | (with_reducible exact encode_Encode.mono _ _ _ _ _ _ _ _ _)
      | (with_reducible exact tautochronelaw20_Make.mono _ _ _ _ _ _ _ _ _)
      | (with_reducible exact tautochronelaw20_awake.mono _)
      | (with_reducible exact LeO.refl _)
      | (with_reducible exact LeO.none _)
      | (with_reducible refine LeO.ite ?_ ?_)
      | (with_reducible refine LeO.bind ?_ (fun _ => ?_))
      | exact encode_Encode.mono _ _ _ _ _ _ _ _ _
      | exact tautochronelaw20_Make.mono _ _ _ _ _ _ _ _ _
      | exact tautochronelaw20_awake.mono _
      | exact LeO.none _
      | refine LeO.ite ?_ ?_
      | refine LeO.bind ?_ (fun _ => ?_)
def tautochronelaw20_EncodeTwo.T3 : Bool × List (List Nat × List Nat) := (true, [([], []), ([0], [0]), ([], []), ([2, 1], [2]), ([], []), ([], []), ([4, 1, 3, 0, 1, 4, 5], [1, 4]), ([5, 3, 6, 0, 1, 2, 3, 4, 5, 6], [3, 5])])
def tautochronelaw20_EncodeTwo.B3 : List Nat := [0, 1, 0, 7, 0, 0, 63, 127]
theorem tautochronelaw20_EncodeTwo.tab3 : rtab .any (opsOf Try.f5 3) = tautochronelaw20_EncodeTwo.T3 := by kernel_rfl
theorem tautochronelaw20_EncodeTwo.bits3 : waitsOk tautochronelaw20_EncodeTwo.T3.2 tautochronelaw20_EncodeTwo.B3 = true := by kernel_rfl
def tautochronelaw20_EncodeTwo.T6 : Bool × List (List Nat × List Nat) := (true, [([], []), ([0], [0]), ([1], [1]), ([1, 2], [1, 2]), ([3, 1], [3]), ([4], [4]), ([5, 4], [4, 5]), ([4], [4]), ([7, 4], [4, 7]), ([6, 8, 4], [4, 6, 8]), ([4], [4]), ([4], [4]), ([10, 11, 4], [4, 10, 11]), ([9, 12, 4], [4, 9, 12]), ([4, 13], [4, 13]), ([14, 4, 0, 1, 2, 3, 4, 5, 6, 7, 8, 9, 10, 11, 12, 13, 14], [14])])
def tautochronelaw20_EncodeTwo.B6 : List Nat := [0, 1, 3, 7, 15, 31, 63, 31, 159, 511, 31, 31, 3103, 8191, 16383, 32767]
theorem tautochronelaw20_EncodeTwo.tab6 : rtab .any (opsOf Try.f5 6) = tautochronelaw20_EncodeTwo.T6 := by kernel_rfl
theorem tautochronelaw20_EncodeTwo.bits6 : waitsOk tautochronelaw20_EncodeTwo.T6.2 tautochronelaw20_EncodeTwo.B6 = true := by kernel_rfl
set_option maxHeartbeats 8000000 in
set_option maxRecDepth 100000 in
theorem tautochronelaw20_EncodeTwo.calls (k : Nat) (a0_0 : Int) (a0_1 : Int) (a0_2 : Int) (a0_3 : Int) (a0_4 : Int) (a0_5 : Int) (a0_6 : Int) (a0_7 : Int) (a1_0 : Int) (a1_1 : Int) (a1_2 : Int) (a1_3 : Int) (a1_4 : Int) (a1_5 : Int) (a1_6 : Int) (a1_7 : Int) (r : Bool) (w : World) (hr_ : r = true) (h : tautochronelaw20_EncodeTwo.f k a0_0 a0_1 a0_2 a0_3 a0_4 a0_5 a0_6 a0_7 a1_0 a1_1 a1_2 a1_3 a1_4 a1_5 a1_6 a1_7 = some r) :
    Calls Try.prog 5 #[.agg #[.int .i64 a0_0, .int .i64 a0_1, .int .i64 a0_2, .int .i64 a0_3, .int .i64 a0_4, .int .i64 a0_5, .int .u64 a0_6, .int .i64 a0_7], .agg #[.int .i64 a1_0, .int .i64 a1_1, .int .i64 a1_2, .int .i64 a1_3, .int .i64 a1_4, .int .i64 a1_5, .int .u64 a1_6, .int .i64 a1_7]] w fun e w' => e = .returned (.bool r) ∧ Below w.heap.size w w' := by
  have hu26 := Try.underlying26
  have HB := Aside0.mk (Below.refl w.heap.size w)
  have H : ((tautochronelaw20_awake.f k).bind fun t219 => (if t219 = true then ((tautochronelaw20_Make.f k a0_0 a0_1 a0_2 a0_3 a0_4 a0_5 a0_6 a0_7).bind fun bt220 => ((tautochronelaw20_Make.f k a1_0 a1_1 a1_2 a1_3 a1_4 a1_5 a1_6 a1_7).bind fun bt228 => ((encode_Encode.f k bt220.1 bt220.2.1 bt220.2.2.1 bt220.2.2.2.1 bt220.2.2.2.2.1 bt220.2.2.2.2.2.1 bt220.2.2.2.2.2.2.1 bt220.2.2.2.2.2.2.2).bind fun bt238 => ((encode_Encode.f k bt228.1 bt228.2.1 bt228.2.2.1 bt228.2.2.2.1 bt228.2.2.2.2.1 bt228.2.2.2.2.2.1 bt228.2.2.2.2.2.2.1 bt228.2.2.2.2.2.2.2).bind fun bt242 => (if bt238.2 = true then (if bt242.2 = true then (some (((strOfNums bt238.1).toList == (strOfNums bt242.1).toList) == (bt220.1 == bt228.1 && (bt220.2.1 == bt228.2.1 && (bt220.2.2.1 == bt228.2.2.1 && (bt220.2.2.2.1 == bt228.2.2.2.1 && (bt220.2.2.2.2.1 == bt228.2.2.2.2.1 && (bt220.2.2.2.2.2.1 == bt228.2.2.2.2.2.1 && (bt220.2.2.2.2.2.2.1 == bt228.2.2.2.2.2.2.1 && (bt220.2.2.2.2.2.2.2 == bt228.2.2.2.2.2.2.2)))))))))) else (some false)) else (some false)))))) else (some false))) = some r := h
  clear h
  replace H := Option.bind_eq_some_iff.mp H
  obtain ⟨t219, A30, H⟩ := H
  replace H : (if t219 = true then ((tautochronelaw20_Make.f k a0_0 a0_1 a0_2 a0_3 a0_4 a0_5 a0_6 a0_7).bind fun bt220 => ((tautochronelaw20_Make.f k a1_0 a1_1 a1_2 a1_3 a1_4 a1_5 a1_6 a1_7).bind fun bt228 => ((encode_Encode.f k bt220.1 bt220.2.1 bt220.2.2.1 bt220.2.2.2.1 bt220.2.2.2.2.1 bt220.2.2.2.2.2.1 bt220.2.2.2.2.2.2.1 bt220.2.2.2.2.2.2.2).bind fun bt238 => ((encode_Encode.f k bt228.1 bt228.2.1 bt228.2.2.1 bt228.2.2.2.1 bt228.2.2.2.2.1 bt228.2.2.2.2.2.1 bt228.2.2.2.2.2.2.1 bt228.2.2.2.2.2.2.2).bind fun bt242 => (if bt238.2 = true then (if bt242.2 = true then (some (((strOfNums bt238.1).toList == (strOfNums bt242.1).toList) == (bt220.1 == bt228.1 && (bt220.2.1 == bt228.2.1 && (bt220.2.2.1 == bt228.2.2.1 && (bt220.2.2.2.1 == bt228.2.2.2.1 && (bt220.2.2.2.2.1 == bt228.2.2.2.2.1 && (bt220.2.2.2.2.2.1 == bt228.2.2.2.2.2.1 && (bt220.2.2.2.2.2.2.1 == bt228.2.2.2.2.2.2.1 && (bt220.2.2.2.2.2.2.2 == bt228.2.2.2.2.2.2.2)))))))))) else (some false)) else (some false)))))) else (some false)) = some r := H
  have A3 := Aside0.mk A30
  clear A30
  by_cases c4 : t219 = true
  rotate_left
  · replace c4 := Bool.eq_false_iff.mpr c4
    subst c4
    have H1 : (some false) = some r := by rw [if_neg (show ¬ (false = true) by decide)] at H; exact H
    clear H
    have H := H1
    clear H1
    exact absurd ((Option.some.inj H).trans hr_) (by decide)
  subst c4
  have H1 : ((tautochronelaw20_Make.f k a0_0 a0_1 a0_2 a0_3 a0_4 a0_5 a0_6 a0_7).bind fun bt220 => ((tautochronelaw20_Make.f k a1_0 a1_1 a1_2 a1_3 a1_4 a1_5 a1_6 a1_7).bind fun bt228 => ((encode_Encode.f k bt220.1 bt220.2.1 bt220.2.2.1 bt220.2.2.2.1 bt220.2.2.2.2.1 bt220.2.2.2.2.2.1 bt220.2.2.2.2.2.2.1 bt220.2.2.2.2.2.2.2).bind fun bt238 => ((encode_Encode.f k bt228.1 bt228.2.1 bt228.2.2.1 bt228.2.2.2.1 bt228.2.2.2.2.1 bt228.2.2.2.2.2.1 bt228.2.2.2.2.2.2.1 bt228.2.2.2.2.2.2.2).bind fun bt242 => (if bt238.2 = true then (if bt242.2 = true then (some (((strOfNums bt238.1).toList == (strOfNums bt242.1).toList) == (bt220.1 == bt228.1 && (bt220.2.1 == bt228.2.1 && (bt220.2.2.1 == bt228.2.2.1 && (bt220.2.2.2.1 == bt228.2.2.2.1 && (bt220.2.2.2.2.1 == bt228.2.2.2.2.1 && (bt220.2.2.2.2.2.1 == bt228.2.2.2.2.2.1 && (bt220.2.2.2.2.2.2.1 == bt228.2.2.2.2.2.2.1 && (bt220.2.2.2.2.2.2.2 == bt228.2.2.2.2.2.2.2)))))))))) else (some false)) else (some false)))))) = some r := by rw [if_pos rfl] at H; exact H
  clear H
  have H := H1
  clear H1
  replace H := Option.bind_eq_some_iff.mp H
  obtain ⟨⟨t220, t221, t222, t223, t224, t225, t226, t227⟩, A50, H⟩ := H
  replace H : ((tautochronelaw20_Make.f k a1_0 a1_1 a1_2 a1_3 a1_4 a1_5 a1_6 a1_7).bind fun bt228 => ((encode_Encode.f k t220 t221 t222 t223 t224 t225 t226 t227).bind fun bt238 => ((encode_Encode.f k bt228.1 bt228.2.1 bt228.2.2.1 bt228.2.2.2.1 bt228.2.2.2.2.1 bt228.2.2.2.2.2.1 bt228.2.2.2.2.2.2.1 bt228.2.2.2.2.2.2.2).bind fun bt242 => (if bt238.2 = true then (if bt242.2 = true then (some (((strOfNums bt238.1).toList == (strOfNums bt242.1).toList) == (t220 == bt228.1 && (t221 == bt228.2.1 && (t222 == bt228.2.2.1 && (t223 == bt228.2.2.2.1 && (t224 == bt228.2.2.2.2.1 && (t225 == bt228.2.2.2.2.2.1 && (t226 == bt228.2.2.2.2.2.2.1 && (t227 == bt228.2.2.2.2.2.2.2)))))))))) else (some false)) else (some false))))) = some r := H
  have A5 := Aside0.mk A50
  clear A50
  replace H := Option.bind_eq_some_iff.mp H
  obtain ⟨⟨t228, t229, t230, t231, t232, t233, t234, t235⟩, A60, H⟩ := H
  replace H : ((encode_Encode.f k t220 t221 t222 t223 t224 t225 t226 t227).bind fun bt238 => ((encode_Encode.f k t228 t229 t230 t231 t232 t233 t234 t235).bind fun bt242 => (if bt238.2 = true then (if bt242.2 = true then (some (((strOfNums bt238.1).toList == (strOfNums bt242.1).toList) == (t220 == t228 && (t221 == t229 && (t222 == t230 && (t223 == t231 && (t224 == t232 && (t225 == t233 && (t226 == t234 && (t227 == t235)))))))))) else (some false)) else (some false)))) = some r := H
  have A6 := Aside0.mk A60
  clear A60
  replace H := Option.bind_eq_some_iff.mp H
  obtain ⟨⟨t238, t241⟩, A70, H⟩ := H
  replace H : ((encode_Encode.f k t228 t229 t230 t231 t232 t233 t234 t235).bind fun bt242 => (if t241 = true then (if bt242.2 = true then (some (((strOfNums t238).toList == (strOfNums bt242.1).toList) == (t220 == t228 && (t221 == t229 && (t222 == t230 && (t223 == t231 && (t224 == t232 && (t225 == t233 && (t226 == t234 && (t227 == t235)))))))))) else (some false)) else (some false))) = some r := H
  have A7 := Aside0.mk A70
  clear A70
  replace H := Option.bind_eq_some_iff.mp H
  obtain ⟨⟨t242, t245⟩, A80, H⟩ := H
  replace H : (if t241 = true then (if t245 = true then (some (((strOfNums t238).toList == (strOfNums t242).toList) == (t220 == t228 && (t221 == t229 && (t222 == t230 && (t223 == t231 && (t224 == t232 && (t225 == t233 && (t226 == t234 && (t227 == t235)))))))))) else (some false)) else (some false)) = some r := H
  have A8 := Aside0.mk A80
  clear A80
  by_cases c9 : t241 = true
  rotate_left
  · replace c9 := Bool.eq_false_iff.mpr c9
    subst c9
    have H1 : (some false) = some r := by rw [if_neg (show ¬ (false = true) by decide)] at H; exact H
    clear H
    have H := H1
    clear H1
    exact absurd ((Option.some.inj H).trans hr_) (by decide)
  subst c9
  have H1 : (if t245 = true then (some (((strOfNums t238).toList == (strOfNums t242).toList) == (t220 == t228 && (t221 == t229 && (t222 == t230 && (t223 == t231 && (t224 == t232 && (t225 == t233 && (t226 == t234 && (t227 == t235)))))))))) else (some false)) = some r := by rw [if_pos rfl] at H; exact H
  clear H
  have H := H1
  clear H1
  by_cases c10 : t245 = true
  rotate_left
  · replace c10 := Bool.eq_false_iff.mpr c10
    subst c10
    have H1 : (some false) = some r := by rw [if_neg (show ¬ (false = true) by decide)] at H; exact H
    clear H
    have H := H1
    clear H1
    exact absurd ((Option.some.inj H).trans hr_) (by decide)
  subst c10
  have H1 : (some (((strOfNums t238).toList == (strOfNums t242).toList) == (t220 == t228 && (t221 == t229 && (t222 == t230 && (t223 == t231 && (t224 == t232 && (t225 == t233 && (t226 == t234 && (t227 == t235)))))))))) = some r := by rw [if_pos rfl] at H; exact H
  clear H
  have H := H1
  clear H1
  obtain rfl := Option.some.inj H
  go_enter Try.func5, Try.ntmps5
  try go_wp2_with (first | ((with_reducible refine gate_dst (N := 2) rfl ?_); refine box_event ?hg (N := 2) ?hd (cs := #[.int .i64 a0_0, .int .i64 a0_1, .int .i64 a0_2, .int .i64 a0_3, .int .i64 a0_4, .int .i64 a0_5, .int .u64 a0_6, .int .i64 a0_7]) (t := 26) ?hr ?_; (case hd => rfl); (case hg => rfl); (case hr => first | (go_simp; done) | (go_simp; rfl)); intro gb217 hg w11 hbox hb; have n0_ := Aside0.mk (below_step (by repeat (first | (with_reducible first | exact HB.out | apply below_alloc | apply pw_below_drewN | apply below_drew1) | exact HB.out)) hb); have n1_ := Aside0.mk (hbox); have n2_ := Aside0.mk ((by rw [hg]; exact (below_size (by repeat (first | (with_reducible first | exact HB.out | apply below_alloc | apply pw_below_drewN | apply below_drew1) | exact HB.out))) : w.heap.size ≤ gb217)); have n3_ := Aside0.mk ((by rw [hg]; exact (below_size (by repeat (first | (with_reducible first | exact HB.out | apply below_alloc | apply pw_below_drewN | apply below_drew1) | exact HB.out))) : w.heap.size ≤ gb217)); clear HB; have HB := n0_; have BK217 := n1_; have GW217 := n2_; have GE217 := n3_; clear n0_ n1_ n2_ n3_; clear hb hbox hg) | ((with_reducible refine gate_dst (N := 3) rfl ?_); refine box_event ?hg (N := 3) ?hd (cs := #[.int .i64 a1_0, .int .i64 a1_1, .int .i64 a1_2, .int .i64 a1_3, .int .i64 a1_4, .int .i64 a1_5, .int .u64 a1_6, .int .i64 a1_7]) (t := 26) ?hr ?_; (case hd => rfl); (case hg => rfl); (case hr => first | (go_simp; done) | (go_simp; rfl)); intro gb218 hg w12 hbox hb; have n0_ := Aside0.mk (blk_below (g := gb217) (o := .cells #[.int .i64 a0_0, .int .i64 a0_1, .int .i64 a0_2, .int .i64 a0_3, .int .i64 a0_4, .int .i64 a0_5, .int .u64 a0_6, .int .i64 a0_7] 26 (0, 0)) (by (with_reducible repeat (first | refine blk_drewN ?_ _ | refine blk_drew ?_ | refine blk_alloc ?_ _)); exact BK217.out) hb); have n1_ := Aside0.mk (below_step (by repeat (first | (with_reducible first | exact HB.out | apply below_alloc | apply pw_below_drewN | apply below_drew1 | refine below_set ?_ GE217.out) | exact HB.out)) hb); have n2_ := Aside0.mk (hbox); have n3_ := Aside0.mk ((by rw [hg]; exact (below_size (by repeat (first | (with_reducible first | exact HB.out | apply below_alloc | apply pw_below_drewN | apply below_drew1 | refine below_set ?_ GE217.out) | exact HB.out))) : w.heap.size ≤ gb218)); have n4_ := Aside0.mk ((by rw [hg]; exact (below_size (by repeat (first | (with_reducible first | exact HB.out | apply below_alloc | apply pw_below_drewN | apply below_drew1 | refine below_set ?_ GE217.out) | exact HB.out))) : w.heap.size ≤ gb218)); have n5_ := Aside0.mk ((by rw [hg]; exact Nat.ne_of_lt (blk_lt (g := gb217) (o := .cells #[.int .i64 a0_0, .int .i64 a0_1, .int .i64 a0_2, .int .i64 a0_3, .int .i64 a0_4, .int .i64 a0_5, .int .u64 a0_6, .int .i64 a0_7] 26 (0, 0)) (by (with_reducible repeat (first | refine blk_drewN ?_ _ | refine blk_drew ?_ | refine blk_alloc ?_ _)); exact BK217.out)) : gb217 ≠ gb218)); have n6_ := Aside0.mk ((by rw [hg]; exact Nat.ne_of_gt (blk_lt (g := gb217) (o := .cells #[.int .i64 a0_0, .int .i64 a0_1, .int .i64 a0_2, .int .i64 a0_3, .int .i64 a0_4, .int .i64 a0_5, .int .u64 a0_6, .int .i64 a0_7] 26 (0, 0)) (by (with_reducible repeat (first | refine blk_drewN ?_ _ | refine blk_drew ?_ | refine blk_alloc ?_ _)); exact BK217.out)) : gb218 ≠ gb217)); clear BK217; clear HB; have BK217 := n0_; have HB := n1_; have BK218 := n2_; have GW218 := n3_; have GE218 := n4_; have NB217_218 := n5_; have NB218_217 := n6_; clear n0_ n1_ n2_ n3_ n4_ n5_ n6_; clear hb hbox hg) | ((with_reducible refine gate_callee (f := 8) rfl ?_); refine goesL_ (some 11) rfl rfl Try.func8 (by kernel_rfl) rfl #[] rfl (by (try simp only [List.map_toArray, List.map_cons, List.map_nil]); first | done | rfl | (simp only [List.length_drop, List.length_take]; rfl)) ?_; (with_reducible refine (tautochronelaw20_awake.calls k  true _ A3.out).mono ?_); rintro e w13 ⟨rfl, hb⟩; refine ⟨_, rfl, ?_⟩; have n0_ := Aside0.mk (blk_below (g := gb217) (o := .cells #[.int .i64 a0_0, .int .i64 a0_1, .int .i64 a0_2, .int .i64 a0_3, .int .i64 a0_4, .int .i64 a0_5, .int .u64 a0_6, .int .i64 a0_7] 26 (0, 0)) (by (with_reducible repeat (first | refine blk_drewN ?_ _ | refine blk_drew ?_ | refine blk_alloc ?_ _)); exact BK217.out) hb); have n1_ := Aside0.mk (blk_below (g := gb218) (o := .cells #[.int .i64 a1_0, .int .i64 a1_1, .int .i64 a1_2, .int .i64 a1_3, .int .i64 a1_4, .int .i64 a1_5, .int .u64 a1_6, .int .i64 a1_7] 26 (0, 0)) (by (with_reducible repeat (first | refine blk_drewN ?_ _ | refine blk_drew ?_ | refine blk_alloc ?_ _)); exact BK218.out) hb); have n2_ := Aside0.mk (below_step (by repeat (first | (with_reducible first | exact HB.out | apply below_alloc | apply pw_below_drewN | apply below_drew1 | refine below_set ?_ GE217.out | refine below_set ?_ GE218.out) | exact HB.out)) hb); clear BK217; clear BK218; clear HB; have BK217 := n0_; have BK218 := n1_; have HB := n2_; clear n0_ n1_ n2_; (try clear hb); (try clear hb2); (try clear hk); (try clear hi)))
  have n0_ := Aside0.mk (blk_drew BK217.out)
  have n1_ := Aside0.mk (blk_drew BK218.out)
  have n2_ := Aside0.mk (below_drew1 HB.out)
  clear BK217
  clear BK218
  clear HB
  have BK217 := n0_
  have BK218 := n1_
  have HB := n2_
  clear n0_ n1_ n2_
  refine start_ (n := 8) (S := fun w' => w'.cell? ⟨gb217, 0, none⟩ = some (.int .i64 a0_0) ∧ w'.cell? ⟨gb217, 1, none⟩ = some (.int .i64 a0_1) ∧ w'.cell? ⟨gb217, 2, none⟩ = some (.int .i64 a0_2) ∧ w'.cell? ⟨gb217, 3, none⟩ = some (.int .i64 a0_3) ∧ w'.cell? ⟨gb217, 4, none⟩ = some (.int .i64 a0_4) ∧ w'.cell? ⟨gb217, 5, none⟩ = some (.int .i64 a0_5) ∧ w'.cell? ⟨gb217, 6, none⟩ = some (.int .u64 a0_6) ∧ w'.cell? ⟨gb217, 7, none⟩ = some (.int .i64 a0_7) ∧ w'.cell? ⟨gb218, 0, none⟩ = some (.int .i64 a1_0) ∧ w'.cell? ⟨gb218, 1, none⟩ = some (.int .i64 a1_1) ∧ w'.cell? ⟨gb218, 2, none⟩ = some (.int .i64 a1_2) ∧ w'.cell? ⟨gb218, 3, none⟩ = some (.int .i64 a1_3) ∧ w'.cell? ⟨gb218, 4, none⟩ = some (.int .i64 a1_4) ∧ w'.cell? ⟨gb218, 5, none⟩ = some (.int .i64 a1_5) ∧ w'.cell? ⟨gb218, 6, none⟩ = some (.int .u64 a1_6) ∧ w'.cell? ⟨gb218, 7, none⟩ = some (.int .i64 a1_7)) (ds := []) #[false, false, false, false, false, false, false, false] (by kernel_rfl) rfl rfl ⟨(blk_cell BK217.out 0).trans rfl, (blk_cell BK217.out 1).trans rfl, (blk_cell BK217.out 2).trans rfl, (blk_cell BK217.out 3).trans rfl, (blk_cell BK217.out 4).trans rfl, (blk_cell BK217.out 5).trans rfl, (blk_cell BK217.out 6).trans rfl, (blk_cell BK217.out 7).trans rfl, (blk_cell BK218.out 0).trans rfl, (blk_cell BK218.out 1).trans rfl, (blk_cell BK218.out 2).trans rfl, (blk_cell BK218.out 3).trans rfl, (blk_cell BK218.out 4).trans rfl, (blk_cell BK218.out 5).trans rfl, (blk_cell BK218.out 6).trans rfl, (blk_cell BK218.out 7).trans rfl⟩ (fun hHeld => ?_); refine with_tabW tautochronelaw20_EncodeTwo.tab3 tautochronelaw20_EncodeTwo.bits3 (fun HT_ HW_ => ?_)
  generalize w13.drew = w14 at BK217 BK218 HB hHeld ⊢
  refine take_ (i := 0) (N := some 13) (v := ?_) (a' := ?_) #[true, false, false, false, false, false, false, false] rfl rfl (take_ofW HT_.out HW_.out (by kernel_rfl)) (fun _ _ _ h => h) (Or.inl ⟨by rfl, ?_⟩) hHeld ?_ ?_
  rotate_left
  · rintro w' ⟨s0, s1, s2, s3, s4, s5, s6, s7, s8, s9, s10, s11, s12, s13, s14, s15⟩
    go_simp
    with_reducible rfl
  rotate_left
  · simp only [Act.put, List.setIfInBounds_toArray, List.set_cons_zero, List.set_cons_succ, i64_w, i32_w]
    rfl
  refine take_ (i := 2) (N := some 15) (v := ?_) (a' := ?_) #[true, false, true, false, false, false, false, false] rfl rfl (take_ofW HT_.out HW_.out (by kernel_rfl)) (fun _ _ _ h => h) (Or.inl ⟨by rfl, ?_⟩) hHeld ?_ ?_
  rotate_left
  · rintro w' ⟨s0, s1, s2, s3, s4, s5, s6, s7, s8, s9, s10, s11, s12, s13, s14, s15⟩
    go_simp
    with_reducible rfl
  rotate_left
  · simp only [Act.put, List.setIfInBounds_toArray, List.set_cons_zero, List.set_cons_succ, i64_w, i32_w]
    rfl
  refine join_ (σ := Nat × Nat) 2 #[true, true, true, true, true, true, false, false] (fun s_ => [(14, .agg #[.int .i64 t220, .int .i64 t221, .int .i64 t222, .int .i64 t223, .int .i64 t224, .int .i64 t225, .int .u64 t226, .int .i64 t227]), (16, .agg #[.int .i64 t228, .int .i64 t229, .int .i64 t230, .int .i64 t231, .int .i64 t232, .int .i64 t233, .int .u64 t234, .int .i64 t235]), (5, .pointer (some ⟨s_.1, 0, none⟩)), (6, .pointer (some ⟨s_.2, 0, none⟩))]) (fun s_ w' => (w'.cell? ⟨gb217, 0, none⟩ = some (.int .i64 a0_0) ∧ w'.cell? ⟨gb217, 1, none⟩ = some (.int .i64 a0_1) ∧ w'.cell? ⟨gb217, 2, none⟩ = some (.int .i64 a0_2) ∧ w'.cell? ⟨gb217, 3, none⟩ = some (.int .i64 a0_3) ∧ w'.cell? ⟨gb217, 4, none⟩ = some (.int .i64 a0_4) ∧ w'.cell? ⟨gb217, 5, none⟩ = some (.int .i64 a0_5) ∧ w'.cell? ⟨gb217, 6, none⟩ = some (.int .u64 a0_6) ∧ w'.cell? ⟨gb217, 7, none⟩ = some (.int .i64 a0_7) ∧ w'.cell? ⟨gb218, 0, none⟩ = some (.int .i64 a1_0) ∧ w'.cell? ⟨gb218, 1, none⟩ = some (.int .i64 a1_1) ∧ w'.cell? ⟨gb218, 2, none⟩ = some (.int .i64 a1_2) ∧ w'.cell? ⟨gb218, 3, none⟩ = some (.int .i64 a1_3) ∧ w'.cell? ⟨gb218, 4, none⟩ = some (.int .i64 a1_4) ∧ w'.cell? ⟨gb218, 5, none⟩ = some (.int .i64 a1_5) ∧ w'.cell? ⟨gb218, 6, none⟩ = some (.int .u64 a1_6) ∧ w'.cell? ⟨gb218, 7, none⟩ = some (.int .i64 a1_7)) ∧ (w'.heap[gb217]? = some (.cells #[.int .i64 a0_0, .int .i64 a0_1, .int .i64 a0_2, .int .i64 a0_3, .int .i64 a0_4, .int .i64 a0_5, .int .u64 a0_6, .int .i64 a0_7] 26 (0, 0))) ∧ (w'.heap[gb218]? = some (.cells #[.int .i64 a1_0, .int .i64 a1_1, .int .i64 a1_2, .int .i64 a1_3, .int .i64 a1_4, .int .i64 a1_5, .int .u64 a1_6, .int .i64 a1_7] 26 (0, 0))) ∧ (w'.heap[s_.1]? = some (.cells #[.int .i64 0, .int .i64 0, .int .i64 0, .int .i64 0, .int .i64 0, .int .i64 0, .int .u64 0, .int .i64 0] 26 (0, 0))) ∧ (w'.heap[s_.2]? = some (.cells #[.int .i64 0, .int .i64 0, .int .i64 0, .int .i64 0, .int .i64 0, .int .i64 0, .int .u64 0, .int .i64 0] 26 (0, 0))) ∧ (w.heap.size ≤ s_.1) ∧ (w.heap.size ≤ s_.1) ∧ (gb217 ≠ s_.1) ∧ (s_.1 ≠ gb217) ∧ (gb218 ≠ s_.1) ∧ (s_.1 ≠ gb218) ∧ (s_.2 ≠ s_.1) ∧ (s_.1 ≠ s_.2) ∧ (w.heap.size ≤ s_.2) ∧ (w.heap.size ≤ s_.2) ∧ (gb217 ≠ s_.2) ∧ (s_.2 ≠ gb217) ∧ (gb218 ≠ s_.2) ∧ (s_.2 ≠ gb218) ∧ (Below w.heap.size w w')) ?_ ?_
  rotate_left
  · intro hJ1_3_4_5
    refine join_ (σ := Nat) 3 #[true, true, true, true, true, false, false, false] (fun s_ => [(14, .agg #[.int .i64 t220, .int .i64 t221, .int .i64 t222, .int .i64 t223, .int .i64 t224, .int .i64 t225, .int .u64 t226, .int .i64 t227]), (16, .agg #[.int .i64 t228, .int .i64 t229, .int .i64 t230, .int .i64 t231, .int .i64 t232, .int .i64 t233, .int .u64 t234, .int .i64 t235]), (5, .pointer (some ⟨s_, 0, none⟩))]) (fun s_ w' => (w'.cell? ⟨gb217, 0, none⟩ = some (.int .i64 a0_0) ∧ w'.cell? ⟨gb217, 1, none⟩ = some (.int .i64 a0_1) ∧ w'.cell? ⟨gb217, 2, none⟩ = some (.int .i64 a0_2) ∧ w'.cell? ⟨gb217, 3, none⟩ = some (.int .i64 a0_3) ∧ w'.cell? ⟨gb217, 4, none⟩ = some (.int .i64 a0_4) ∧ w'.cell? ⟨gb217, 5, none⟩ = some (.int .i64 a0_5) ∧ w'.cell? ⟨gb217, 6, none⟩ = some (.int .u64 a0_6) ∧ w'.cell? ⟨gb217, 7, none⟩ = some (.int .i64 a0_7) ∧ w'.cell? ⟨gb218, 0, none⟩ = some (.int .i64 a1_0) ∧ w'.cell? ⟨gb218, 1, none⟩ = some (.int .i64 a1_1) ∧ w'.cell? ⟨gb218, 2, none⟩ = some (.int .i64 a1_2) ∧ w'.cell? ⟨gb218, 3, none⟩ = some (.int .i64 a1_3) ∧ w'.cell? ⟨gb218, 4, none⟩ = some (.int .i64 a1_4) ∧ w'.cell? ⟨gb218, 5, none⟩ = some (.int .i64 a1_5) ∧ w'.cell? ⟨gb218, 6, none⟩ = some (.int .u64 a1_6) ∧ w'.cell? ⟨gb218, 7, none⟩ = some (.int .i64 a1_7)) ∧ (w'.heap[gb217]? = some (.cells #[.int .i64 a0_0, .int .i64 a0_1, .int .i64 a0_2, .int .i64 a0_3, .int .i64 a0_4, .int .i64 a0_5, .int .u64 a0_6, .int .i64 a0_7] 26 (0, 0))) ∧ (w'.heap[gb218]? = some (.cells #[.int .i64 a1_0, .int .i64 a1_1, .int .i64 a1_2, .int .i64 a1_3, .int .i64 a1_4, .int .i64 a1_5, .int .u64 a1_6, .int .i64 a1_7] 26 (0, 0))) ∧ (w'.heap[s_]? = some (.cells #[.int .i64 0, .int .i64 0, .int .i64 0, .int .i64 0, .int .i64 0, .int .i64 0, .int .u64 0, .int .i64 0] 26 (0, 0))) ∧ (w.heap.size ≤ s_) ∧ (w.heap.size ≤ s_) ∧ (gb217 ≠ s_) ∧ (s_ ≠ gb217) ∧ (gb218 ≠ s_) ∧ (s_ ≠ gb218) ∧ (Below w.heap.size w w')) ?_ ?_
    rotate_left
    · intro hJ1_3_4
      refine join_ (σ := Nat) 3 #[true, true, true, true, false, true, false, false] (fun s_ => [(14, .agg #[.int .i64 t220, .int .i64 t221, .int .i64 t222, .int .i64 t223, .int .i64 t224, .int .i64 t225, .int .u64 t226, .int .i64 t227]), (16, .agg #[.int .i64 t228, .int .i64 t229, .int .i64 t230, .int .i64 t231, .int .i64 t232, .int .i64 t233, .int .u64 t234, .int .i64 t235]), (6, .pointer (some ⟨s_, 0, none⟩))]) (fun s_ w' => (w'.cell? ⟨gb217, 0, none⟩ = some (.int .i64 a0_0) ∧ w'.cell? ⟨gb217, 1, none⟩ = some (.int .i64 a0_1) ∧ w'.cell? ⟨gb217, 2, none⟩ = some (.int .i64 a0_2) ∧ w'.cell? ⟨gb217, 3, none⟩ = some (.int .i64 a0_3) ∧ w'.cell? ⟨gb217, 4, none⟩ = some (.int .i64 a0_4) ∧ w'.cell? ⟨gb217, 5, none⟩ = some (.int .i64 a0_5) ∧ w'.cell? ⟨gb217, 6, none⟩ = some (.int .u64 a0_6) ∧ w'.cell? ⟨gb217, 7, none⟩ = some (.int .i64 a0_7) ∧ w'.cell? ⟨gb218, 0, none⟩ = some (.int .i64 a1_0) ∧ w'.cell? ⟨gb218, 1, none⟩ = some (.int .i64 a1_1) ∧ w'.cell? ⟨gb218, 2, none⟩ = some (.int .i64 a1_2) ∧ w'.cell? ⟨gb218, 3, none⟩ = some (.int .i64 a1_3) ∧ w'.cell? ⟨gb218, 4, none⟩ = some (.int .i64 a1_4) ∧ w'.cell? ⟨gb218, 5, none⟩ = some (.int .i64 a1_5) ∧ w'.cell? ⟨gb218, 6, none⟩ = some (.int .u64 a1_6) ∧ w'.cell? ⟨gb218, 7, none⟩ = some (.int .i64 a1_7)) ∧ (w'.heap[gb217]? = some (.cells #[.int .i64 a0_0, .int .i64 a0_1, .int .i64 a0_2, .int .i64 a0_3, .int .i64 a0_4, .int .i64 a0_5, .int .u64 a0_6, .int .i64 a0_7] 26 (0, 0))) ∧ (w'.heap[gb218]? = some (.cells #[.int .i64 a1_0, .int .i64 a1_1, .int .i64 a1_2, .int .i64 a1_3, .int .i64 a1_4, .int .i64 a1_5, .int .u64 a1_6, .int .i64 a1_7] 26 (0, 0))) ∧ (w'.heap[s_]? = some (.cells #[.int .i64 0, .int .i64 0, .int .i64 0, .int .i64 0, .int .i64 0, .int .i64 0, .int .u64 0, .int .i64 0] 26 (0, 0))) ∧ (w.heap.size ≤ s_) ∧ (w.heap.size ≤ s_) ∧ (gb217 ≠ s_) ∧ (s_ ≠ gb217) ∧ (gb218 ≠ s_) ∧ (s_ ≠ gb218) ∧ (Below w.heap.size w w')) ?_ ?_
      rotate_left
      · intro hJ1_3_5
        refine join_ (σ := Nat × Nat) 3 #[true, true, true, false, true, true, false, false] (fun s_ => [(14, .agg #[.int .i64 t220, .int .i64 t221, .int .i64 t222, .int .i64 t223, .int .i64 t224, .int .i64 t225, .int .u64 t226, .int .i64 t227]), (5, .pointer (some ⟨s_.1, 0, none⟩)), (6, .pointer (some ⟨s_.2, 0, none⟩))]) (fun s_ w' => (w'.cell? ⟨gb217, 0, none⟩ = some (.int .i64 a0_0) ∧ w'.cell? ⟨gb217, 1, none⟩ = some (.int .i64 a0_1) ∧ w'.cell? ⟨gb217, 2, none⟩ = some (.int .i64 a0_2) ∧ w'.cell? ⟨gb217, 3, none⟩ = some (.int .i64 a0_3) ∧ w'.cell? ⟨gb217, 4, none⟩ = some (.int .i64 a0_4) ∧ w'.cell? ⟨gb217, 5, none⟩ = some (.int .i64 a0_5) ∧ w'.cell? ⟨gb217, 6, none⟩ = some (.int .u64 a0_6) ∧ w'.cell? ⟨gb217, 7, none⟩ = some (.int .i64 a0_7) ∧ w'.cell? ⟨gb218, 0, none⟩ = some (.int .i64 a1_0) ∧ w'.cell? ⟨gb218, 1, none⟩ = some (.int .i64 a1_1) ∧ w'.cell? ⟨gb218, 2, none⟩ = some (.int .i64 a1_2) ∧ w'.cell? ⟨gb218, 3, none⟩ = some (.int .i64 a1_3) ∧ w'.cell? ⟨gb218, 4, none⟩ = some (.int .i64 a1_4) ∧ w'.cell? ⟨gb218, 5, none⟩ = some (.int .i64 a1_5) ∧ w'.cell? ⟨gb218, 6, none⟩ = some (.int .u64 a1_6) ∧ w'.cell? ⟨gb218, 7, none⟩ = some (.int .i64 a1_7)) ∧ (w'.heap[gb217]? = some (.cells #[.int .i64 a0_0, .int .i64 a0_1, .int .i64 a0_2, .int .i64 a0_3, .int .i64 a0_4, .int .i64 a0_5, .int .u64 a0_6, .int .i64 a0_7] 26 (0, 0))) ∧ (w'.heap[gb218]? = some (.cells #[.int .i64 a1_0, .int .i64 a1_1, .int .i64 a1_2, .int .i64 a1_3, .int .i64 a1_4, .int .i64 a1_5, .int .u64 a1_6, .int .i64 a1_7] 26 (0, 0))) ∧ (w'.heap[s_.1]? = some (.cells #[.int .i64 0, .int .i64 0, .int .i64 0, .int .i64 0, .int .i64 0, .int .i64 0, .int .u64 0, .int .i64 0] 26 (0, 0))) ∧ (w'.heap[s_.2]? = some (.cells #[.int .i64 0, .int .i64 0, .int .i64 0, .int .i64 0, .int .i64 0, .int .i64 0, .int .u64 0, .int .i64 0] 26 (0, 0))) ∧ (w.heap.size ≤ s_.1) ∧ (w.heap.size ≤ s_.1) ∧ (gb217 ≠ s_.1) ∧ (s_.1 ≠ gb217) ∧ (gb218 ≠ s_.1) ∧ (s_.1 ≠ gb218) ∧ (s_.2 ≠ s_.1) ∧ (s_.1 ≠ s_.2) ∧ (w.heap.size ≤ s_.2) ∧ (w.heap.size ≤ s_.2) ∧ (gb217 ≠ s_.2) ∧ (s_.2 ≠ gb217) ∧ (gb218 ≠ s_.2) ∧ (s_.2 ≠ gb218) ∧ (Below w.heap.size w w')) ?_ ?_
        rotate_left
        · intro hJ1_4_5
          refine join_ (σ := Unit) 4 #[true, true, true, true, false, false, false, false] (fun s_ => [(14, .agg #[.int .i64 t220, .int .i64 t221, .int .i64 t222, .int .i64 t223, .int .i64 t224, .int .i64 t225, .int .u64 t226, .int .i64 t227]), (16, .agg #[.int .i64 t228, .int .i64 t229, .int .i64 t230, .int .i64 t231, .int .i64 t232, .int .i64 t233, .int .u64 t234, .int .i64 t235])]) (fun s_ w' => (w'.cell? ⟨gb217, 0, none⟩ = some (.int .i64 a0_0) ∧ w'.cell? ⟨gb217, 1, none⟩ = some (.int .i64 a0_1) ∧ w'.cell? ⟨gb217, 2, none⟩ = some (.int .i64 a0_2) ∧ w'.cell? ⟨gb217, 3, none⟩ = some (.int .i64 a0_3) ∧ w'.cell? ⟨gb217, 4, none⟩ = some (.int .i64 a0_4) ∧ w'.cell? ⟨gb217, 5, none⟩ = some (.int .i64 a0_5) ∧ w'.cell? ⟨gb217, 6, none⟩ = some (.int .u64 a0_6) ∧ w'.cell? ⟨gb217, 7, none⟩ = some (.int .i64 a0_7) ∧ w'.cell? ⟨gb218, 0, none⟩ = some (.int .i64 a1_0) ∧ w'.cell? ⟨gb218, 1, none⟩ = some (.int .i64 a1_1) ∧ w'.cell? ⟨gb218, 2, none⟩ = some (.int .i64 a1_2) ∧ w'.cell? ⟨gb218, 3, none⟩ = some (.int .i64 a1_3) ∧ w'.cell? ⟨gb218, 4, none⟩ = some (.int .i64 a1_4) ∧ w'.cell? ⟨gb218, 5, none⟩ = some (.int .i64 a1_5) ∧ w'.cell? ⟨gb218, 6, none⟩ = some (.int .u64 a1_6) ∧ w'.cell? ⟨gb218, 7, none⟩ = some (.int .i64 a1_7)) ∧ (w'.heap[gb217]? = some (.cells #[.int .i64 a0_0, .int .i64 a0_1, .int .i64 a0_2, .int .i64 a0_3, .int .i64 a0_4, .int .i64 a0_5, .int .u64 a0_6, .int .i64 a0_7] 26 (0, 0))) ∧ (w'.heap[gb218]? = some (.cells #[.int .i64 a1_0, .int .i64 a1_1, .int .i64 a1_2, .int .i64 a1_3, .int .i64 a1_4, .int .i64 a1_5, .int .u64 a1_6, .int .i64 a1_7] 26 (0, 0))) ∧ (Below w.heap.size w w')) ?_ ?_
          rotate_left
          · intro hJ1_3
            refine join_ (σ := Nat) 4 #[true, true, true, false, true, false, false, false] (fun s_ => [(14, .agg #[.int .i64 t220, .int .i64 t221, .int .i64 t222, .int .i64 t223, .int .i64 t224, .int .i64 t225, .int .u64 t226, .int .i64 t227]), (5, .pointer (some ⟨s_, 0, none⟩))]) (fun s_ w' => (w'.cell? ⟨gb217, 0, none⟩ = some (.int .i64 a0_0) ∧ w'.cell? ⟨gb217, 1, none⟩ = some (.int .i64 a0_1) ∧ w'.cell? ⟨gb217, 2, none⟩ = some (.int .i64 a0_2) ∧ w'.cell? ⟨gb217, 3, none⟩ = some (.int .i64 a0_3) ∧ w'.cell? ⟨gb217, 4, none⟩ = some (.int .i64 a0_4) ∧ w'.cell? ⟨gb217, 5, none⟩ = some (.int .i64 a0_5) ∧ w'.cell? ⟨gb217, 6, none⟩ = some (.int .u64 a0_6) ∧ w'.cell? ⟨gb217, 7, none⟩ = some (.int .i64 a0_7) ∧ w'.cell? ⟨gb218, 0, none⟩ = some (.int .i64 a1_0) ∧ w'.cell? ⟨gb218, 1, none⟩ = some (.int .i64 a1_1) ∧ w'.cell? ⟨gb218, 2, none⟩ = some (.int .i64 a1_2) ∧ w'.cell? ⟨gb218, 3, none⟩ = some (.int .i64 a1_3) ∧ w'.cell? ⟨gb218, 4, none⟩ = some (.int .i64 a1_4) ∧ w'.cell? ⟨gb218, 5, none⟩ = some (.int .i64 a1_5) ∧ w'.cell? ⟨gb218, 6, none⟩ = some (.int .u64 a1_6) ∧ w'.cell? ⟨gb218, 7, none⟩ = some (.int .i64 a1_7)) ∧ (w'.heap[gb217]? = some (.cells #[.int .i64 a0_0, .int .i64 a0_1, .int .i64 a0_2, .int .i64 a0_3, .int .i64 a0_4, .int .i64 a0_5, .int .u64 a0_6, .int .i64 a0_7] 26 (0, 0))) ∧ (w'.heap[gb218]? = some (.cells #[.int .i64 a1_0, .int .i64 a1_1, .int .i64 a1_2, .int .i64 a1_3, .int .i64 a1_4, .int .i64 a1_5, .int .u64 a1_6, .int .i64 a1_7] 26 (0, 0))) ∧ (w'.heap[s_]? = some (.cells #[.int .i64 0, .int .i64 0, .int .i64 0, .int .i64 0, .int .i64 0, .int .i64 0, .int .u64 0, .int .i64 0] 26 (0, 0))) ∧ (w.heap.size ≤ s_) ∧ (w.heap.size ≤ s_) ∧ (gb217 ≠ s_) ∧ (s_ ≠ gb217) ∧ (gb218 ≠ s_) ∧ (s_ ≠ gb218) ∧ (Below w.heap.size w w')) ?_ ?_
            rotate_left
            · intro hJ1_4
              refine join_ (σ := Nat) 4 #[true, true, true, false, false, true, false, false] (fun s_ => [(14, .agg #[.int .i64 t220, .int .i64 t221, .int .i64 t222, .int .i64 t223, .int .i64 t224, .int .i64 t225, .int .u64 t226, .int .i64 t227]), (6, .pointer (some ⟨s_, 0, none⟩))]) (fun s_ w' => (w'.cell? ⟨gb217, 0, none⟩ = some (.int .i64 a0_0) ∧ w'.cell? ⟨gb217, 1, none⟩ = some (.int .i64 a0_1) ∧ w'.cell? ⟨gb217, 2, none⟩ = some (.int .i64 a0_2) ∧ w'.cell? ⟨gb217, 3, none⟩ = some (.int .i64 a0_3) ∧ w'.cell? ⟨gb217, 4, none⟩ = some (.int .i64 a0_4) ∧ w'.cell? ⟨gb217, 5, none⟩ = some (.int .i64 a0_5) ∧ w'.cell? ⟨gb217, 6, none⟩ = some (.int .u64 a0_6) ∧ w'.cell? ⟨gb217, 7, none⟩ = some (.int .i64 a0_7) ∧ w'.cell? ⟨gb218, 0, none⟩ = some (.int .i64 a1_0) ∧ w'.cell? ⟨gb218, 1, none⟩ = some (.int .i64 a1_1) ∧ w'.cell? ⟨gb218, 2, none⟩ = some (.int .i64 a1_2) ∧ w'.cell? ⟨gb218, 3, none⟩ = some (.int .i64 a1_3) ∧ w'.cell? ⟨gb218, 4, none⟩ = some (.int .i64 a1_4) ∧ w'.cell? ⟨gb218, 5, none⟩ = some (.int .i64 a1_5) ∧ w'.cell? ⟨gb218, 6, none⟩ = some (.int .u64 a1_6) ∧ w'.cell? ⟨gb218, 7, none⟩ = some (.int .i64 a1_7)) ∧ (w'.heap[gb217]? = some (.cells #[.int .i64 a0_0, .int .i64 a0_1, .int .i64 a0_2, .int .i64 a0_3, .int .i64 a0_4, .int .i64 a0_5, .int .u64 a0_6, .int .i64 a0_7] 26 (0, 0))) ∧ (w'.heap[gb218]? = some (.cells #[.int .i64 a1_0, .int .i64 a1_1, .int .i64 a1_2, .int .i64 a1_3, .int .i64 a1_4, .int .i64 a1_5, .int .u64 a1_6, .int .i64 a1_7] 26 (0, 0))) ∧ (w'.heap[s_]? = some (.cells #[.int .i64 0, .int .i64 0, .int .i64 0, .int .i64 0, .int .i64 0, .int .i64 0, .int .u64 0, .int .i64 0] 26 (0, 0))) ∧ (w.heap.size ≤ s_) ∧ (w.heap.size ≤ s_) ∧ (gb217 ≠ s_) ∧ (s_ ≠ gb217) ∧ (gb218 ≠ s_) ∧ (s_ ≠ gb218) ∧ (Below w.heap.size w w')) ?_ ?_
              rotate_left
              · intro hJ1_5
                refine join_ (σ := Nat × Nat) 4 #[true, false, true, false, true, true, false, false] (fun s_ => [(5, .pointer (some ⟨s_.1, 0, none⟩)), (6, .pointer (some ⟨s_.2, 0, none⟩))]) (fun s_ w' => (w'.cell? ⟨gb217, 0, none⟩ = some (.int .i64 a0_0) ∧ w'.cell? ⟨gb217, 1, none⟩ = some (.int .i64 a0_1) ∧ w'.cell? ⟨gb217, 2, none⟩ = some (.int .i64 a0_2) ∧ w'.cell? ⟨gb217, 3, none⟩ = some (.int .i64 a0_3) ∧ w'.cell? ⟨gb217, 4, none⟩ = some (.int .i64 a0_4) ∧ w'.cell? ⟨gb217, 5, none⟩ = some (.int .i64 a0_5) ∧ w'.cell? ⟨gb217, 6, none⟩ = some (.int .u64 a0_6) ∧ w'.cell? ⟨gb217, 7, none⟩ = some (.int .i64 a0_7) ∧ w'.cell? ⟨gb218, 0, none⟩ = some (.int .i64 a1_0) ∧ w'.cell? ⟨gb218, 1, none⟩ = some (.int .i64 a1_1) ∧ w'.cell? ⟨gb218, 2, none⟩ = some (.int .i64 a1_2) ∧ w'.cell? ⟨gb218, 3, none⟩ = some (.int .i64 a1_3) ∧ w'.cell? ⟨gb218, 4, none⟩ = some (.int .i64 a1_4) ∧ w'.cell? ⟨gb218, 5, none⟩ = some (.int .i64 a1_5) ∧ w'.cell? ⟨gb218, 6, none⟩ = some (.int .u64 a1_6) ∧ w'.cell? ⟨gb218, 7, none⟩ = some (.int .i64 a1_7)) ∧ (w'.heap[gb217]? = some (.cells #[.int .i64 a0_0, .int .i64 a0_1, .int .i64 a0_2, .int .i64 a0_3, .int .i64 a0_4, .int .i64 a0_5, .int .u64 a0_6, .int .i64 a0_7] 26 (0, 0))) ∧ (w'.heap[gb218]? = some (.cells #[.int .i64 a1_0, .int .i64 a1_1, .int .i64 a1_2, .int .i64 a1_3, .int .i64 a1_4, .int .i64 a1_5, .int .u64 a1_6, .int .i64 a1_7] 26 (0, 0))) ∧ (w'.heap[s_.1]? = some (.cells #[.int .i64 0, .int .i64 0, .int .i64 0, .int .i64 0, .int .i64 0, .int .i64 0, .int .u64 0, .int .i64 0] 26 (0, 0))) ∧ (w'.heap[s_.2]? = some (.cells #[.int .i64 0, .int .i64 0, .int .i64 0, .int .i64 0, .int .i64 0, .int .i64 0, .int .u64 0, .int .i64 0] 26 (0, 0))) ∧ (w.heap.size ≤ s_.1) ∧ (w.heap.size ≤ s_.1) ∧ (gb217 ≠ s_.1) ∧ (s_.1 ≠ gb217) ∧ (gb218 ≠ s_.1) ∧ (s_.1 ≠ gb218) ∧ (s_.2 ≠ s_.1) ∧ (s_.1 ≠ s_.2) ∧ (w.heap.size ≤ s_.2) ∧ (w.heap.size ≤ s_.2) ∧ (gb217 ≠ s_.2) ∧ (s_.2 ≠ gb217) ∧ (gb218 ≠ s_.2) ∧ (s_.2 ≠ gb218) ∧ (Below w.heap.size w w')) ?_ ?_
                rotate_left
                · intro hJ4_5
                  refine join_ (σ := Unit) 5 #[true, true, true, false, false, false, false, false] (fun s_ => [(14, .agg #[.int .i64 t220, .int .i64 t221, .int .i64 t222, .int .i64 t223, .int .i64 t224, .int .i64 t225, .int .u64 t226, .int .i64 t227])]) (fun s_ w' => (w'.cell? ⟨gb217, 0, none⟩ = some (.int .i64 a0_0) ∧ w'.cell? ⟨gb217, 1, none⟩ = some (.int .i64 a0_1) ∧ w'.cell? ⟨gb217, 2, none⟩ = some (.int .i64 a0_2) ∧ w'.cell? ⟨gb217, 3, none⟩ = some (.int .i64 a0_3) ∧ w'.cell? ⟨gb217, 4, none⟩ = some (.int .i64 a0_4) ∧ w'.cell? ⟨gb217, 5, none⟩ = some (.int .i64 a0_5) ∧ w'.cell? ⟨gb217, 6, none⟩ = some (.int .u64 a0_6) ∧ w'.cell? ⟨gb217, 7, none⟩ = some (.int .i64 a0_7) ∧ w'.cell? ⟨gb218, 0, none⟩ = some (.int .i64 a1_0) ∧ w'.cell? ⟨gb218, 1, none⟩ = some (.int .i64 a1_1) ∧ w'.cell? ⟨gb218, 2, none⟩ = some (.int .i64 a1_2) ∧ w'.cell? ⟨gb218, 3, none⟩ = some (.int .i64 a1_3) ∧ w'.cell? ⟨gb218, 4, none⟩ = some (.int .i64 a1_4) ∧ w'.cell? ⟨gb218, 5, none⟩ = some (.int .i64 a1_5) ∧ w'.cell? ⟨gb218, 6, none⟩ = some (.int .u64 a1_6) ∧ w'.cell? ⟨gb218, 7, none⟩ = some (.int .i64 a1_7)) ∧ (w'.heap[gb217]? = some (.cells #[.int .i64 a0_0, .int .i64 a0_1, .int .i64 a0_2, .int .i64 a0_3, .int .i64 a0_4, .int .i64 a0_5, .int .u64 a0_6, .int .i64 a0_7] 26 (0, 0))) ∧ (w'.heap[gb218]? = some (.cells #[.int .i64 a1_0, .int .i64 a1_1, .int .i64 a1_2, .int .i64 a1_3, .int .i64 a1_4, .int .i64 a1_5, .int .u64 a1_6, .int .i64 a1_7] 26 (0, 0))) ∧ (Below w.heap.size w w')) ?_ ?_
                  rotate_left
                  · intro hJ1
                    refine join_ (σ := Nat) 5 #[true, false, true, false, true, false, false, false] (fun s_ => [(5, .pointer (some ⟨s_, 0, none⟩))]) (fun s_ w' => (w'.cell? ⟨gb217, 0, none⟩ = some (.int .i64 a0_0) ∧ w'.cell? ⟨gb217, 1, none⟩ = some (.int .i64 a0_1) ∧ w'.cell? ⟨gb217, 2, none⟩ = some (.int .i64 a0_2) ∧ w'.cell? ⟨gb217, 3, none⟩ = some (.int .i64 a0_3) ∧ w'.cell? ⟨gb217, 4, none⟩ = some (.int .i64 a0_4) ∧ w'.cell? ⟨gb217, 5, none⟩ = some (.int .i64 a0_5) ∧ w'.cell? ⟨gb217, 6, none⟩ = some (.int .u64 a0_6) ∧ w'.cell? ⟨gb217, 7, none⟩ = some (.int .i64 a0_7) ∧ w'.cell? ⟨gb218, 0, none⟩ = some (.int .i64 a1_0) ∧ w'.cell? ⟨gb218, 1, none⟩ = some (.int .i64 a1_1) ∧ w'.cell? ⟨gb218, 2, none⟩ = some (.int .i64 a1_2) ∧ w'.cell? ⟨gb218, 3, none⟩ = some (.int .i64 a1_3) ∧ w'.cell? ⟨gb218, 4, none⟩ = some (.int .i64 a1_4) ∧ w'.cell? ⟨gb218, 5, none⟩ = some (.int .i64 a1_5) ∧ w'.cell? ⟨gb218, 6, none⟩ = some (.int .u64 a1_6) ∧ w'.cell? ⟨gb218, 7, none⟩ = some (.int .i64 a1_7)) ∧ (w'.heap[gb217]? = some (.cells #[.int .i64 a0_0, .int .i64 a0_1, .int .i64 a0_2, .int .i64 a0_3, .int .i64 a0_4, .int .i64 a0_5, .int .u64 a0_6, .int .i64 a0_7] 26 (0, 0))) ∧ (w'.heap[gb218]? = some (.cells #[.int .i64 a1_0, .int .i64 a1_1, .int .i64 a1_2, .int .i64 a1_3, .int .i64 a1_4, .int .i64 a1_5, .int .u64 a1_6, .int .i64 a1_7] 26 (0, 0))) ∧ (w'.heap[s_]? = some (.cells #[.int .i64 0, .int .i64 0, .int .i64 0, .int .i64 0, .int .i64 0, .int .i64 0, .int .u64 0, .int .i64 0] 26 (0, 0))) ∧ (w.heap.size ≤ s_) ∧ (w.heap.size ≤ s_) ∧ (gb217 ≠ s_) ∧ (s_ ≠ gb217) ∧ (gb218 ≠ s_) ∧ (s_ ≠ gb218) ∧ (Below w.heap.size w w')) ?_ ?_
                    rotate_left
                    · intro hJ4
                      refine join_ (σ := Nat) 5 #[true, false, true, false, false, true, false, false] (fun s_ => [(6, .pointer (some ⟨s_, 0, none⟩))]) (fun s_ w' => (w'.cell? ⟨gb217, 0, none⟩ = some (.int .i64 a0_0) ∧ w'.cell? ⟨gb217, 1, none⟩ = some (.int .i64 a0_1) ∧ w'.cell? ⟨gb217, 2, none⟩ = some (.int .i64 a0_2) ∧ w'.cell? ⟨gb217, 3, none⟩ = some (.int .i64 a0_3) ∧ w'.cell? ⟨gb217, 4, none⟩ = some (.int .i64 a0_4) ∧ w'.cell? ⟨gb217, 5, none⟩ = some (.int .i64 a0_5) ∧ w'.cell? ⟨gb217, 6, none⟩ = some (.int .u64 a0_6) ∧ w'.cell? ⟨gb217, 7, none⟩ = some (.int .i64 a0_7) ∧ w'.cell? ⟨gb218, 0, none⟩ = some (.int .i64 a1_0) ∧ w'.cell? ⟨gb218, 1, none⟩ = some (.int .i64 a1_1) ∧ w'.cell? ⟨gb218, 2, none⟩ = some (.int .i64 a1_2) ∧ w'.cell? ⟨gb218, 3, none⟩ = some (.int .i64 a1_3) ∧ w'.cell? ⟨gb218, 4, none⟩ = some (.int .i64 a1_4) ∧ w'.cell? ⟨gb218, 5, none⟩ = some (.int .i64 a1_5) ∧ w'.cell? ⟨gb218, 6, none⟩ = some (.int .u64 a1_6) ∧ w'.cell? ⟨gb218, 7, none⟩ = some (.int .i64 a1_7)) ∧ (w'.heap[gb217]? = some (.cells #[.int .i64 a0_0, .int .i64 a0_1, .int .i64 a0_2, .int .i64 a0_3, .int .i64 a0_4, .int .i64 a0_5, .int .u64 a0_6, .int .i64 a0_7] 26 (0, 0))) ∧ (w'.heap[gb218]? = some (.cells #[.int .i64 a1_0, .int .i64 a1_1, .int .i64 a1_2, .int .i64 a1_3, .int .i64 a1_4, .int .i64 a1_5, .int .u64 a1_6, .int .i64 a1_7] 26 (0, 0))) ∧ (w'.heap[s_]? = some (.cells #[.int .i64 0, .int .i64 0, .int .i64 0, .int .i64 0, .int .i64 0, .int .i64 0, .int .u64 0, .int .i64 0] 26 (0, 0))) ∧ (w.heap.size ≤ s_) ∧ (w.heap.size ≤ s_) ∧ (gb217 ≠ s_) ∧ (s_ ≠ gb217) ∧ (gb218 ≠ s_) ∧ (s_ ≠ gb218) ∧ (Below w.heap.size w w')) ?_ ?_
                      rotate_left
                      · intro hJ5
                        refine three_ (i := 1) (j := 4) (k := 5) (Ni := some 14) (Nj := some 5) (Nk := some 6) #[true, true, true, false, false, false, false, false] #[true, false, true, false, true, false, false, false] #[true, false, true, false, false, true, false, false] rfl rfl rfl rfl rfl rfl (three_of HT_.out (by kernel_rfl)) (by decide) (by decide) (by decide) (fun K hK => ?_) (fun K hK => ?_) (fun K hK => ?_)
                        · skip
                          refine goes_ Try.func9 (by kernel_rfl) rfl #[.agg #[.int .i64 a0_0, .int .i64 a0_1, .int .i64 a0_2, .int .i64 a0_3, .int .i64 a0_4, .int .i64 a0_5, .int .u64 a0_6, .int .i64 a0_7]] (by rfl) rfl rfl (by (try simp only [List.map_toArray, List.map_cons, List.map_nil]); first | done | rfl | (simp only [List.length_drop, List.length_take]; rfl)) ?_
                          with_reducible refine (tautochronelaw20_Make.calls k a0_0 a0_1 a0_2 a0_3 a0_4 a0_5 a0_6 a0_7 t220 t221 t222 t223 t224 t225 t226 t227 _ A5.out).mono ?_
                          rintro e w15 ⟨rfl, hb⟩
                          refine ⟨_, rfl, ?_⟩
                          have n0_ := Aside0.mk (blk_below (g := gb217) (o := .cells #[.int .i64 a0_0, .int .i64 a0_1, .int .i64 a0_2, .int .i64 a0_3, .int .i64 a0_4, .int .i64 a0_5, .int .u64 a0_6, .int .i64 a0_7] 26 (0, 0)) (by (with_reducible repeat (first | refine blk_drewN ?_ _ | refine blk_drew ?_ | refine blk_alloc ?_ _)); exact BK217.out) hb)
                          have n1_ := Aside0.mk (blk_below (g := gb218) (o := .cells #[.int .i64 a1_0, .int .i64 a1_1, .int .i64 a1_2, .int .i64 a1_3, .int .i64 a1_4, .int .i64 a1_5, .int .u64 a1_6, .int .i64 a1_7] 26 (0, 0)) (by (with_reducible repeat (first | refine blk_drewN ?_ _ | refine blk_drew ?_ | refine blk_alloc ?_ _)); exact BK218.out) hb)
                          have n2_ := Aside0.mk (below_step (by repeat (first | (with_reducible first | exact HB.out | apply below_alloc | apply pw_below_drewN | apply below_drew1 | refine below_set ?_ GE217.out | refine below_set ?_ GE218.out) | exact HB.out)) hb)
                          clear BK217
                          clear BK218
                          clear HB
                          have BK217 := n0_
                          have BK218 := n1_
                          have HB := n2_
                          clear n0_ n1_ n2_
                          (try clear hb)
                          (try clear hb2)
                          (try clear hk)
                          (try clear hi)
                          refine hK.out _ _ ⟨(blk_cell BK217.out 0).trans rfl, (blk_cell BK217.out 1).trans rfl, (blk_cell BK217.out 2).trans rfl, (blk_cell BK217.out 3).trans rfl, (blk_cell BK217.out 4).trans rfl, (blk_cell BK217.out 5).trans rfl, (blk_cell BK217.out 6).trans rfl, (blk_cell BK217.out 7).trans rfl, (blk_cell BK218.out 0).trans rfl, (blk_cell BK218.out 1).trans rfl, (blk_cell BK218.out 2).trans rfl, (blk_cell BK218.out 3).trans rfl, (blk_cell BK218.out 4).trans rfl, (blk_cell BK218.out 5).trans rfl, (blk_cell BK218.out 6).trans rfl, (blk_cell BK218.out 7).trans rfl⟩ (fun hHeld => ?_)
                          clear hK K
                          refine norm_ (a' := ?_) ?_ ?_
                          rotate_left
                          · show Act.put _ (some 14) _ = _
                            simp only [Act.put, List.setIfInBounds_toArray, List.set_cons_zero, List.set_cons_succ, i64_w, i32_w]
                            rfl
                          exact norm_ (by first | (simp only [putAll, Act.put, List.setIfInBounds_toArray, List.set_cons_zero, List.set_cons_succ]; done) | (simp only [putAll, Act.put, List.setIfInBounds_toArray, List.set_cons_zero, List.set_cons_succ]; rfl)) (hJ1 () _ ⟨hHeld, (by (with_reducible repeat (first | refine blk_drewN ?_ _ | refine blk_drew ?_ | refine blk_alloc ?_ _)); exact BK217.out), (by (with_reducible repeat (first | refine blk_drewN ?_ _ | refine blk_drew ?_ | refine blk_alloc ?_ _)); exact BK218.out), (by repeat (first | (with_reducible first | exact HB.out | apply below_alloc | apply pw_below_drewN | apply below_drew1 | refine below_set ?_ GE217.out | refine below_set ?_ GE218.out) | exact HB.out))⟩)
                        · skip
                          refine box_step ?hg (N := 5) ?hd (cs := #[.int .i64 0, .int .i64 0, .int .i64 0, .int .i64 0, .int .i64 0, .int .i64 0, .int .u64 0, .int .i64 0]) (t := 26) ?hr ?_; (case hd => rfl); (case hg => rfl); (case hr => first | (go_simp; done) | (go_simp; rfl))
                          intro gb236 hg w15 hbox hb
                          have n0_ := Aside0.mk (blk_below (g := gb217) (o := .cells #[.int .i64 a0_0, .int .i64 a0_1, .int .i64 a0_2, .int .i64 a0_3, .int .i64 a0_4, .int .i64 a0_5, .int .u64 a0_6, .int .i64 a0_7] 26 (0, 0)) (by (with_reducible repeat (first | refine blk_drewN ?_ _ | refine blk_drew ?_ | refine blk_alloc ?_ _)); exact BK217.out) hb)
                          have n1_ := Aside0.mk (blk_below (g := gb218) (o := .cells #[.int .i64 a1_0, .int .i64 a1_1, .int .i64 a1_2, .int .i64 a1_3, .int .i64 a1_4, .int .i64 a1_5, .int .u64 a1_6, .int .i64 a1_7] 26 (0, 0)) (by (with_reducible repeat (first | refine blk_drewN ?_ _ | refine blk_drew ?_ | refine blk_alloc ?_ _)); exact BK218.out) hb)
                          have n2_ := Aside0.mk (below_step (by repeat (first | (with_reducible first | exact HB.out | apply below_alloc | apply pw_below_drewN | apply below_drew1 | refine below_set ?_ GE217.out | refine below_set ?_ GE218.out) | exact HB.out)) hb)
                          have n3_ := Aside0.mk (hbox)
                          have n4_ := Aside0.mk ((by rw [hg]; exact (below_size (by repeat (first | (with_reducible first | exact HB.out | apply below_alloc | apply pw_below_drewN | apply below_drew1 | refine below_set ?_ GE217.out | refine below_set ?_ GE218.out) | exact HB.out))) : w.heap.size ≤ gb236))
                          have n5_ := Aside0.mk ((by rw [hg]; exact (below_size (by repeat (first | (with_reducible first | exact HB.out | apply below_alloc | apply pw_below_drewN | apply below_drew1 | refine below_set ?_ GE217.out | refine below_set ?_ GE218.out) | exact HB.out))) : w.heap.size ≤ gb236))
                          have n6_ := Aside0.mk ((by rw [hg]; exact Nat.ne_of_lt (blk_lt (g := gb217) (o := .cells #[.int .i64 a0_0, .int .i64 a0_1, .int .i64 a0_2, .int .i64 a0_3, .int .i64 a0_4, .int .i64 a0_5, .int .u64 a0_6, .int .i64 a0_7] 26 (0, 0)) (by (with_reducible repeat (first | refine blk_drewN ?_ _ | refine blk_drew ?_ | refine blk_alloc ?_ _)); exact BK217.out)) : gb217 ≠ gb236))
                          have n7_ := Aside0.mk ((by rw [hg]; exact Nat.ne_of_gt (blk_lt (g := gb217) (o := .cells #[.int .i64 a0_0, .int .i64 a0_1, .int .i64 a0_2, .int .i64 a0_3, .int .i64 a0_4, .int .i64 a0_5, .int .u64 a0_6, .int .i64 a0_7] 26 (0, 0)) (by (with_reducible repeat (first | refine blk_drewN ?_ _ | refine blk_drew ?_ | refine blk_alloc ?_ _)); exact BK217.out)) : gb236 ≠ gb217))
                          have n8_ := Aside0.mk ((by rw [hg]; exact Nat.ne_of_lt (blk_lt (g := gb218) (o := .cells #[.int .i64 a1_0, .int .i64 a1_1, .int .i64 a1_2, .int .i64 a1_3, .int .i64 a1_4, .int .i64 a1_5, .int .u64 a1_6, .int .i64 a1_7] 26 (0, 0)) (by (with_reducible repeat (first | refine blk_drewN ?_ _ | refine blk_drew ?_ | refine blk_alloc ?_ _)); exact BK218.out)) : gb218 ≠ gb236))
                          have n9_ := Aside0.mk ((by rw [hg]; exact Nat.ne_of_gt (blk_lt (g := gb218) (o := .cells #[.int .i64 a1_0, .int .i64 a1_1, .int .i64 a1_2, .int .i64 a1_3, .int .i64 a1_4, .int .i64 a1_5, .int .u64 a1_6, .int .i64 a1_7] 26 (0, 0)) (by (with_reducible repeat (first | refine blk_drewN ?_ _ | refine blk_drew ?_ | refine blk_alloc ?_ _)); exact BK218.out)) : gb236 ≠ gb218))
                          clear BK217
                          clear BK218
                          clear HB
                          have BK217 := n0_
                          have BK218 := n1_
                          have HB := n2_
                          have BK236 := n3_
                          have GW236 := n4_
                          have GE236 := n5_
                          have NB217_236 := n6_
                          have NB236_217 := n7_
                          have NB218_236 := n8_
                          have NB236_218 := n9_
                          clear n0_ n1_ n2_ n3_ n4_ n5_ n6_ n7_ n8_ n9_
                          clear hb hbox hg
                          refine hK.out _ _ ⟨(blk_cell BK217.out 0).trans rfl, (blk_cell BK217.out 1).trans rfl, (blk_cell BK217.out 2).trans rfl, (blk_cell BK217.out 3).trans rfl, (blk_cell BK217.out 4).trans rfl, (blk_cell BK217.out 5).trans rfl, (blk_cell BK217.out 6).trans rfl, (blk_cell BK217.out 7).trans rfl, (blk_cell BK218.out 0).trans rfl, (blk_cell BK218.out 1).trans rfl, (blk_cell BK218.out 2).trans rfl, (blk_cell BK218.out 3).trans rfl, (blk_cell BK218.out 4).trans rfl, (blk_cell BK218.out 5).trans rfl, (blk_cell BK218.out 6).trans rfl, (blk_cell BK218.out 7).trans rfl⟩ (fun hHeld => ?_)
                          clear hK K
                          refine norm_ (a' := ?_) ?_ ?_
                          rotate_left
                          · show Act.put _ (some 5) _ = _
                            simp only [Act.put, List.setIfInBounds_toArray, List.set_cons_zero, List.set_cons_succ, i64_w, i32_w]
                            rfl
                          exact norm_ (by first | (simp only [putAll, Act.put, List.setIfInBounds_toArray, List.set_cons_zero, List.set_cons_succ]; done) | (simp only [putAll, Act.put, List.setIfInBounds_toArray, List.set_cons_zero, List.set_cons_succ]; rfl)) (hJ4 (gb236) _ ⟨hHeld, (by (with_reducible repeat (first | refine blk_drewN ?_ _ | refine blk_drew ?_ | refine blk_alloc ?_ _)); exact BK217.out), (by (with_reducible repeat (first | refine blk_drewN ?_ _ | refine blk_drew ?_ | refine blk_alloc ?_ _)); exact BK218.out), (by (with_reducible repeat (first | refine blk_drewN ?_ _ | refine blk_drew ?_ | refine blk_alloc ?_ _)); exact BK236.out), GW236.out, GE236.out, NB217_236.out, NB236_217.out, NB218_236.out, NB236_218.out, (by repeat (first | (with_reducible first | exact HB.out | apply below_alloc | apply pw_below_drewN | apply below_drew1 | refine below_set ?_ GE217.out | refine below_set ?_ GE218.out | refine below_set ?_ GE236.out) | exact HB.out))⟩)
                        · skip
                          refine box_step ?hg (N := 6) ?hd (cs := #[.int .i64 0, .int .i64 0, .int .i64 0, .int .i64 0, .int .i64 0, .int .i64 0, .int .u64 0, .int .i64 0]) (t := 26) ?hr ?_; (case hd => rfl); (case hg => rfl); (case hr => first | (go_simp; done) | (go_simp; rfl))
                          intro gb237 hg w15 hbox hb
                          have n0_ := Aside0.mk (blk_below (g := gb217) (o := .cells #[.int .i64 a0_0, .int .i64 a0_1, .int .i64 a0_2, .int .i64 a0_3, .int .i64 a0_4, .int .i64 a0_5, .int .u64 a0_6, .int .i64 a0_7] 26 (0, 0)) (by (with_reducible repeat (first | refine blk_drewN ?_ _ | refine blk_drew ?_ | refine blk_alloc ?_ _)); exact BK217.out) hb)
                          have n1_ := Aside0.mk (blk_below (g := gb218) (o := .cells #[.int .i64 a1_0, .int .i64 a1_1, .int .i64 a1_2, .int .i64 a1_3, .int .i64 a1_4, .int .i64 a1_5, .int .u64 a1_6, .int .i64 a1_7] 26 (0, 0)) (by (with_reducible repeat (first | refine blk_drewN ?_ _ | refine blk_drew ?_ | refine blk_alloc ?_ _)); exact BK218.out) hb)
                          have n2_ := Aside0.mk (below_step (by repeat (first | (with_reducible first | exact HB.out | apply below_alloc | apply pw_below_drewN | apply below_drew1 | refine below_set ?_ GE217.out | refine below_set ?_ GE218.out) | exact HB.out)) hb)
                          have n3_ := Aside0.mk (hbox)
                          have n4_ := Aside0.mk ((by rw [hg]; exact (below_size (by repeat (first | (with_reducible first | exact HB.out | apply below_alloc | apply pw_below_drewN | apply below_drew1 | refine below_set ?_ GE217.out | refine below_set ?_ GE218.out) | exact HB.out))) : w.heap.size ≤ gb237))
                          have n5_ := Aside0.mk ((by rw [hg]; exact (below_size (by repeat (first | (with_reducible first | exact HB.out | apply below_alloc | apply pw_below_drewN | apply below_drew1 | refine below_set ?_ GE217.out | refine below_set ?_ GE218.out) | exact HB.out))) : w.heap.size ≤ gb237))
                          have n6_ := Aside0.mk ((by rw [hg]; exact Nat.ne_of_lt (blk_lt (g := gb217) (o := .cells #[.int .i64 a0_0, .int .i64 a0_1, .int .i64 a0_2, .int .i64 a0_3, .int .i64 a0_4, .int .i64 a0_5, .int .u64 a0_6, .int .i64 a0_7] 26 (0, 0)) (by (with_reducible repeat (first | refine blk_drewN ?_ _ | refine blk_drew ?_ | refine blk_alloc ?_ _)); exact BK217.out)) : gb217 ≠ gb237))
                          have n7_ := Aside0.mk ((by rw [hg]; exact Nat.ne_of_gt (blk_lt (g := gb217) (o := .cells #[.int .i64 a0_0, .int .i64 a0_1, .int .i64 a0_2, .int .i64 a0_3, .int .i64 a0_4, .int .i64 a0_5, .int .u64 a0_6, .int .i64 a0_7] 26 (0, 0)) (by (with_reducible repeat (first | refine blk_drewN ?_ _ | refine blk_drew ?_ | refine blk_alloc ?_ _)); exact BK217.out)) : gb237 ≠ gb217))
                          have n8_ := Aside0.mk ((by rw [hg]; exact Nat.ne_of_lt (blk_lt (g := gb218) (o := .cells #[.int .i64 a1_0, .int .i64 a1_1, .int .i64 a1_2, .int .i64 a1_3, .int .i64 a1_4, .int .i64 a1_5, .int .u64 a1_6, .int .i64 a1_7] 26 (0, 0)) (by (with_reducible repeat (first | refine blk_drewN ?_ _ | refine blk_drew ?_ | refine blk_alloc ?_ _)); exact BK218.out)) : gb218 ≠ gb237))
                          have n9_ := Aside0.mk ((by rw [hg]; exact Nat.ne_of_gt (blk_lt (g := gb218) (o := .cells #[.int .i64 a1_0, .int .i64 a1_1, .int .i64 a1_2, .int .i64 a1_3, .int .i64 a1_4, .int .i64 a1_5, .int .u64 a1_6, .int .i64 a1_7] 26 (0, 0)) (by (with_reducible repeat (first | refine blk_drewN ?_ _ | refine blk_drew ?_ | refine blk_alloc ?_ _)); exact BK218.out)) : gb237 ≠ gb218))
                          clear BK217
                          clear BK218
                          clear HB
                          have BK217 := n0_
                          have BK218 := n1_
                          have HB := n2_
                          have BK237 := n3_
                          have GW237 := n4_
                          have GE237 := n5_
                          have NB217_237 := n6_
                          have NB237_217 := n7_
                          have NB218_237 := n8_
                          have NB237_218 := n9_
                          clear n0_ n1_ n2_ n3_ n4_ n5_ n6_ n7_ n8_ n9_
                          clear hb hbox hg
                          refine hK.out _ _ ⟨(blk_cell BK217.out 0).trans rfl, (blk_cell BK217.out 1).trans rfl, (blk_cell BK217.out 2).trans rfl, (blk_cell BK217.out 3).trans rfl, (blk_cell BK217.out 4).trans rfl, (blk_cell BK217.out 5).trans rfl, (blk_cell BK217.out 6).trans rfl, (blk_cell BK217.out 7).trans rfl, (blk_cell BK218.out 0).trans rfl, (blk_cell BK218.out 1).trans rfl, (blk_cell BK218.out 2).trans rfl, (blk_cell BK218.out 3).trans rfl, (blk_cell BK218.out 4).trans rfl, (blk_cell BK218.out 5).trans rfl, (blk_cell BK218.out 6).trans rfl, (blk_cell BK218.out 7).trans rfl⟩ (fun hHeld => ?_)
                          clear hK K
                          refine norm_ (a' := ?_) ?_ ?_
                          rotate_left
                          · show Act.put _ (some 6) _ = _
                            simp only [Act.put, List.setIfInBounds_toArray, List.set_cons_zero, List.set_cons_succ, i64_w, i32_w]
                            rfl
                          exact norm_ (by first | (simp only [putAll, Act.put, List.setIfInBounds_toArray, List.set_cons_zero, List.set_cons_succ]; done) | (simp only [putAll, Act.put, List.setIfInBounds_toArray, List.set_cons_zero, List.set_cons_succ]; rfl)) (hJ5 (gb237) _ ⟨hHeld, (by (with_reducible repeat (first | refine blk_drewN ?_ _ | refine blk_drew ?_ | refine blk_alloc ?_ _)); exact BK217.out), (by (with_reducible repeat (first | refine blk_drewN ?_ _ | refine blk_drew ?_ | refine blk_alloc ?_ _)); exact BK218.out), (by (with_reducible repeat (first | refine blk_drewN ?_ _ | refine blk_drew ?_ | refine blk_alloc ?_ _)); exact BK237.out), GW237.out, GE237.out, NB217_237.out, NB237_217.out, NB218_237.out, NB237_218.out, (by repeat (first | (with_reducible first | exact HB.out | apply below_alloc | apply pw_below_drewN | apply below_drew1 | refine below_set ?_ GE217.out | refine below_set ?_ GE218.out | refine below_set ?_ GE237.out) | exact HB.out))⟩)
                      · skip
                        rintro gb237 w16 ⟨hS_, h0_, h1_, h2_, h3_, h4_, h5_, h6_, h7_, h8_, h9_⟩
                        have n0_ : Aside0 (w16.heap[gb217]? = some (.cells #[.int .i64 a0_0, .int .i64 a0_1, .int .i64 a0_2, .int .i64 a0_3, .int .i64 a0_4, .int .i64 a0_5, .int .u64 a0_6, .int .i64 a0_7] 26 (0, 0))) := ⟨h0_⟩
                        have n1_ : Aside0 (w16.heap[gb218]? = some (.cells #[.int .i64 a1_0, .int .i64 a1_1, .int .i64 a1_2, .int .i64 a1_3, .int .i64 a1_4, .int .i64 a1_5, .int .u64 a1_6, .int .i64 a1_7] 26 (0, 0))) := ⟨h1_⟩
                        have n2_ : Aside0 (w16.heap[gb237]? = some (.cells #[.int .i64 0, .int .i64 0, .int .i64 0, .int .i64 0, .int .i64 0, .int .i64 0, .int .u64 0, .int .i64 0] 26 (0, 0))) := ⟨h2_⟩
                        have n3_ : Aside0 (w.heap.size ≤ gb237) := ⟨h3_⟩
                        have n4_ : Aside0 (w.heap.size ≤ gb237) := ⟨h4_⟩
                        have n5_ : Aside0 (gb217 ≠ gb237) := ⟨h5_⟩
                        have n6_ : Aside0 (gb237 ≠ gb217) := ⟨h6_⟩
                        have n7_ : Aside0 (gb218 ≠ gb237) := ⟨h7_⟩
                        have n8_ : Aside0 (gb237 ≠ gb218) := ⟨h8_⟩
                        have n9_ : Aside0 (Below w.heap.size w w16) := ⟨h9_⟩
                        clear BK217
                        clear BK218
                        clear HB
                        clear h0_ h1_ h2_ h3_ h4_ h5_ h6_ h7_ h8_ h9_
                        have BK217 := n0_
                        have BK218 := n1_
                        have BK237 := n2_
                        have GW237 := n3_
                        have GE237 := n4_
                        have NB217_237 := n5_
                        have NB237_217 := n6_
                        have NB218_237 := n7_
                        have NB237_218 := n8_
                        have HB := n9_
                        clear n0_ n1_ n2_ n3_ n4_ n5_ n6_ n7_ n8_ n9_
                        have hHeld : w16.cell? ⟨gb217, 0, none⟩ = some (.int .i64 a0_0) ∧ w16.cell? ⟨gb217, 1, none⟩ = some (.int .i64 a0_1) ∧ w16.cell? ⟨gb217, 2, none⟩ = some (.int .i64 a0_2) ∧ w16.cell? ⟨gb217, 3, none⟩ = some (.int .i64 a0_3) ∧ w16.cell? ⟨gb217, 4, none⟩ = some (.int .i64 a0_4) ∧ w16.cell? ⟨gb217, 5, none⟩ = some (.int .i64 a0_5) ∧ w16.cell? ⟨gb217, 6, none⟩ = some (.int .u64 a0_6) ∧ w16.cell? ⟨gb217, 7, none⟩ = some (.int .i64 a0_7) ∧ w16.cell? ⟨gb218, 0, none⟩ = some (.int .i64 a1_0) ∧ w16.cell? ⟨gb218, 1, none⟩ = some (.int .i64 a1_1) ∧ w16.cell? ⟨gb218, 2, none⟩ = some (.int .i64 a1_2) ∧ w16.cell? ⟨gb218, 3, none⟩ = some (.int .i64 a1_3) ∧ w16.cell? ⟨gb218, 4, none⟩ = some (.int .i64 a1_4) ∧ w16.cell? ⟨gb218, 5, none⟩ = some (.int .i64 a1_5) ∧ w16.cell? ⟨gb218, 6, none⟩ = some (.int .u64 a1_6) ∧ w16.cell? ⟨gb218, 7, none⟩ = some (.int .i64 a1_7) := hS_
                        refine norm_ (a' := ?_) ?_ ?_
                        rotate_left
                        · simp only [putAll, Act.put, List.setIfInBounds_toArray, List.set_cons_zero, List.set_cons_succ]
                          rfl
                        refine two_ (i := 1) (j := 4) (Ni := some 14) (Nj := some 5) #[true, true, true, false, false, true, false, false] #[true, false, true, false, true, true, false, false] rfl rfl rfl rfl (two_of HT_.out (by kernel_rfl)) (by decide) (by decide) (fun K hK => ?_) (fun K hK => ?_)
                        · skip
                          refine goes_ Try.func9 (by kernel_rfl) rfl #[.agg #[.int .i64 a0_0, .int .i64 a0_1, .int .i64 a0_2, .int .i64 a0_3, .int .i64 a0_4, .int .i64 a0_5, .int .u64 a0_6, .int .i64 a0_7]] (by rfl) rfl rfl (by (try simp only [List.map_toArray, List.map_cons, List.map_nil]); first | done | rfl | (simp only [List.length_drop, List.length_take]; rfl)) ?_
                          with_reducible refine (tautochronelaw20_Make.calls k a0_0 a0_1 a0_2 a0_3 a0_4 a0_5 a0_6 a0_7 t220 t221 t222 t223 t224 t225 t226 t227 _ A5.out).mono ?_
                          rintro e w17 ⟨rfl, hb⟩
                          refine ⟨_, rfl, ?_⟩
                          have n0_ := Aside0.mk (blk_below (g := gb217) (o := .cells #[.int .i64 a0_0, .int .i64 a0_1, .int .i64 a0_2, .int .i64 a0_3, .int .i64 a0_4, .int .i64 a0_5, .int .u64 a0_6, .int .i64 a0_7] 26 (0, 0)) (by (with_reducible repeat (first | refine blk_drewN ?_ _ | refine blk_drew ?_ | refine blk_alloc ?_ _)); exact BK217.out) hb)
                          have n1_ := Aside0.mk (blk_below (g := gb218) (o := .cells #[.int .i64 a1_0, .int .i64 a1_1, .int .i64 a1_2, .int .i64 a1_3, .int .i64 a1_4, .int .i64 a1_5, .int .u64 a1_6, .int .i64 a1_7] 26 (0, 0)) (by (with_reducible repeat (first | refine blk_drewN ?_ _ | refine blk_drew ?_ | refine blk_alloc ?_ _)); exact BK218.out) hb)
                          have n2_ := Aside0.mk (blk_below (g := gb237) (o := .cells #[.int .i64 0, .int .i64 0, .int .i64 0, .int .i64 0, .int .i64 0, .int .i64 0, .int .u64 0, .int .i64 0] 26 (0, 0)) (by (with_reducible repeat (first | refine blk_drewN ?_ _ | refine blk_drew ?_ | refine blk_alloc ?_ _)); exact BK237.out) hb)
                          have n3_ := Aside0.mk (below_step (by repeat (first | (with_reducible first | exact HB.out | apply below_alloc | apply pw_below_drewN | apply below_drew1 | refine below_set ?_ GE217.out | refine below_set ?_ GE218.out | refine below_set ?_ GE237.out) | exact HB.out)) hb)
                          clear BK217
                          clear BK218
                          clear BK237
                          clear HB
                          have BK217 := n0_
                          have BK218 := n1_
                          have BK237 := n2_
                          have HB := n3_
                          clear n0_ n1_ n2_ n3_
                          (try clear hb)
                          (try clear hb2)
                          (try clear hk)
                          (try clear hi)
                          refine hK.out _ _ ⟨(blk_cell BK217.out 0).trans rfl, (blk_cell BK217.out 1).trans rfl, (blk_cell BK217.out 2).trans rfl, (blk_cell BK217.out 3).trans rfl, (blk_cell BK217.out 4).trans rfl, (blk_cell BK217.out 5).trans rfl, (blk_cell BK217.out 6).trans rfl, (blk_cell BK217.out 7).trans rfl, (blk_cell BK218.out 0).trans rfl, (blk_cell BK218.out 1).trans rfl, (blk_cell BK218.out 2).trans rfl, (blk_cell BK218.out 3).trans rfl, (blk_cell BK218.out 4).trans rfl, (blk_cell BK218.out 5).trans rfl, (blk_cell BK218.out 6).trans rfl, (blk_cell BK218.out 7).trans rfl⟩ (fun hHeld => ?_)
                          clear hK K
                          refine norm_ (a' := ?_) ?_ ?_
                          rotate_left
                          · show Act.put _ (some 14) _ = _
                            simp only [Act.put, List.setIfInBounds_toArray, List.set_cons_zero, List.set_cons_succ, i64_w, i32_w]
                            rfl
                          exact norm_ (by first | (simp only [putAll, Act.put, List.setIfInBounds_toArray, List.set_cons_zero, List.set_cons_succ]; done) | (simp only [putAll, Act.put, List.setIfInBounds_toArray, List.set_cons_zero, List.set_cons_succ]; rfl)) (hJ1_5 (gb237) _ ⟨hHeld, (by (with_reducible repeat (first | refine blk_drewN ?_ _ | refine blk_drew ?_ | refine blk_alloc ?_ _)); exact BK217.out), (by (with_reducible repeat (first | refine blk_drewN ?_ _ | refine blk_drew ?_ | refine blk_alloc ?_ _)); exact BK218.out), (by (with_reducible repeat (first | refine blk_drewN ?_ _ | refine blk_drew ?_ | refine blk_alloc ?_ _)); exact BK237.out), GW237.out, GE237.out, NB217_237.out, NB237_217.out, NB218_237.out, NB237_218.out, (by repeat (first | (with_reducible first | exact HB.out | apply below_alloc | apply pw_below_drewN | apply below_drew1 | refine below_set ?_ GE217.out | refine below_set ?_ GE218.out | refine below_set ?_ GE237.out) | exact HB.out))⟩)
                        · skip
                          refine box_step ?hg (N := 5) ?hd (cs := #[.int .i64 0, .int .i64 0, .int .i64 0, .int .i64 0, .int .i64 0, .int .i64 0, .int .u64 0, .int .i64 0]) (t := 26) ?hr ?_; (case hd => rfl); (case hg => rfl); (case hr => first | (go_simp; done) | (go_simp; rfl))
                          intro gb236 hg w17 hbox hb
                          have n0_ := Aside0.mk (blk_below (g := gb217) (o := .cells #[.int .i64 a0_0, .int .i64 a0_1, .int .i64 a0_2, .int .i64 a0_3, .int .i64 a0_4, .int .i64 a0_5, .int .u64 a0_6, .int .i64 a0_7] 26 (0, 0)) (by (with_reducible repeat (first | refine blk_drewN ?_ _ | refine blk_drew ?_ | refine blk_alloc ?_ _)); exact BK217.out) hb)
                          have n1_ := Aside0.mk (blk_below (g := gb218) (o := .cells #[.int .i64 a1_0, .int .i64 a1_1, .int .i64 a1_2, .int .i64 a1_3, .int .i64 a1_4, .int .i64 a1_5, .int .u64 a1_6, .int .i64 a1_7] 26 (0, 0)) (by (with_reducible repeat (first | refine blk_drewN ?_ _ | refine blk_drew ?_ | refine blk_alloc ?_ _)); exact BK218.out) hb)
                          have n2_ := Aside0.mk (blk_below (g := gb237) (o := .cells #[.int .i64 0, .int .i64 0, .int .i64 0, .int .i64 0, .int .i64 0, .int .i64 0, .int .u64 0, .int .i64 0] 26 (0, 0)) (by (with_reducible repeat (first | refine blk_drewN ?_ _ | refine blk_drew ?_ | refine blk_alloc ?_ _)); exact BK237.out) hb)
                          have n3_ := Aside0.mk (below_step (by repeat (first | (with_reducible first | exact HB.out | apply below_alloc | apply pw_below_drewN | apply below_drew1 | refine below_set ?_ GE217.out | refine below_set ?_ GE218.out | refine below_set ?_ GE237.out) | exact HB.out)) hb)
                          have n4_ := Aside0.mk (hbox)
                          have n5_ := Aside0.mk ((by rw [hg]; exact (below_size (by repeat (first | (with_reducible first | exact HB.out | apply below_alloc | apply pw_below_drewN | apply below_drew1 | refine below_set ?_ GE217.out | refine below_set ?_ GE218.out | refine below_set ?_ GE237.out) | exact HB.out))) : w.heap.size ≤ gb236))
                          have n6_ := Aside0.mk ((by rw [hg]; exact (below_size (by repeat (first | (with_reducible first | exact HB.out | apply below_alloc | apply pw_below_drewN | apply below_drew1 | refine below_set ?_ GE217.out | refine below_set ?_ GE218.out | refine below_set ?_ GE237.out) | exact HB.out))) : w.heap.size ≤ gb236))
                          have n7_ := Aside0.mk ((by rw [hg]; exact Nat.ne_of_lt (blk_lt (g := gb217) (o := .cells #[.int .i64 a0_0, .int .i64 a0_1, .int .i64 a0_2, .int .i64 a0_3, .int .i64 a0_4, .int .i64 a0_5, .int .u64 a0_6, .int .i64 a0_7] 26 (0, 0)) (by (with_reducible repeat (first | refine blk_drewN ?_ _ | refine blk_drew ?_ | refine blk_alloc ?_ _)); exact BK217.out)) : gb217 ≠ gb236))
                          have n8_ := Aside0.mk ((by rw [hg]; exact Nat.ne_of_gt (blk_lt (g := gb217) (o := .cells #[.int .i64 a0_0, .int .i64 a0_1, .int .i64 a0_2, .int .i64 a0_3, .int .i64 a0_4, .int .i64 a0_5, .int .u64 a0_6, .int .i64 a0_7] 26 (0, 0)) (by (with_reducible repeat (first | refine blk_drewN ?_ _ | refine blk_drew ?_ | refine blk_alloc ?_ _)); exact BK217.out)) : gb236 ≠ gb217))
                          have n9_ := Aside0.mk ((by rw [hg]; exact Nat.ne_of_lt (blk_lt (g := gb218) (o := .cells #[.int .i64 a1_0, .int .i64 a1_1, .int .i64 a1_2, .int .i64 a1_3, .int .i64 a1_4, .int .i64 a1_5, .int .u64 a1_6, .int .i64 a1_7] 26 (0, 0)) (by (with_reducible repeat (first | refine blk_drewN ?_ _ | refine blk_drew ?_ | refine blk_alloc ?_ _)); exact BK218.out)) : gb218 ≠ gb236))
                          have n10_ := Aside0.mk ((by rw [hg]; exact Nat.ne_of_gt (blk_lt (g := gb218) (o := .cells #[.int .i64 a1_0, .int .i64 a1_1, .int .i64 a1_2, .int .i64 a1_3, .int .i64 a1_4, .int .i64 a1_5, .int .u64 a1_6, .int .i64 a1_7] 26 (0, 0)) (by (with_reducible repeat (first | refine blk_drewN ?_ _ | refine blk_drew ?_ | refine blk_alloc ?_ _)); exact BK218.out)) : gb236 ≠ gb218))
                          have n11_ := Aside0.mk ((by rw [hg]; exact Nat.ne_of_lt (blk_lt (g := gb237) (o := .cells #[.int .i64 0, .int .i64 0, .int .i64 0, .int .i64 0, .int .i64 0, .int .i64 0, .int .u64 0, .int .i64 0] 26 (0, 0)) (by (with_reducible repeat (first | refine blk_drewN ?_ _ | refine blk_drew ?_ | refine blk_alloc ?_ _)); exact BK237.out)) : gb237 ≠ gb236))
                          have n12_ := Aside0.mk ((by rw [hg]; exact Nat.ne_of_gt (blk_lt (g := gb237) (o := .cells #[.int .i64 0, .int .i64 0, .int .i64 0, .int .i64 0, .int .i64 0, .int .i64 0, .int .u64 0, .int .i64 0] 26 (0, 0)) (by (with_reducible repeat (first | refine blk_drewN ?_ _ | refine blk_drew ?_ | refine blk_alloc ?_ _)); exact BK237.out)) : gb236 ≠ gb237))
                          clear BK217
                          clear BK218
                          clear BK237
                          clear HB
                          have BK217 := n0_
                          have BK218 := n1_
                          have BK237 := n2_
                          have HB := n3_
                          have BK236 := n4_
                          have GW236 := n5_
                          have GE236 := n6_
                          have NB217_236 := n7_
                          have NB236_217 := n8_
                          have NB218_236 := n9_
                          have NB236_218 := n10_
                          have NB237_236 := n11_
                          have NB236_237 := n12_
                          clear n0_ n1_ n2_ n3_ n4_ n5_ n6_ n7_ n8_ n9_ n10_ n11_ n12_
                          clear hb hbox hg
                          refine hK.out _ _ ⟨(blk_cell BK217.out 0).trans rfl, (blk_cell BK217.out 1).trans rfl, (blk_cell BK217.out 2).trans rfl, (blk_cell BK217.out 3).trans rfl, (blk_cell BK217.out 4).trans rfl, (blk_cell BK217.out 5).trans rfl, (blk_cell BK217.out 6).trans rfl, (blk_cell BK217.out 7).trans rfl, (blk_cell BK218.out 0).trans rfl, (blk_cell BK218.out 1).trans rfl, (blk_cell BK218.out 2).trans rfl, (blk_cell BK218.out 3).trans rfl, (blk_cell BK218.out 4).trans rfl, (blk_cell BK218.out 5).trans rfl, (blk_cell BK218.out 6).trans rfl, (blk_cell BK218.out 7).trans rfl⟩ (fun hHeld => ?_)
                          clear hK K
                          refine norm_ (a' := ?_) ?_ ?_
                          rotate_left
                          · show Act.put _ (some 5) _ = _
                            simp only [Act.put, List.setIfInBounds_toArray, List.set_cons_zero, List.set_cons_succ, i64_w, i32_w]
                            rfl
                          exact norm_ (by first | (simp only [putAll, Act.put, List.setIfInBounds_toArray, List.set_cons_zero, List.set_cons_succ]; done) | (simp only [putAll, Act.put, List.setIfInBounds_toArray, List.set_cons_zero, List.set_cons_succ]; rfl)) (hJ4_5 (gb236, gb237) _ ⟨hHeld, (by (with_reducible repeat (first | refine blk_drewN ?_ _ | refine blk_drew ?_ | refine blk_alloc ?_ _)); exact BK217.out), (by (with_reducible repeat (first | refine blk_drewN ?_ _ | refine blk_drew ?_ | refine blk_alloc ?_ _)); exact BK218.out), (by (with_reducible repeat (first | refine blk_drewN ?_ _ | refine blk_drew ?_ | refine blk_alloc ?_ _)); exact BK236.out), (by (with_reducible repeat (first | refine blk_drewN ?_ _ | refine blk_drew ?_ | refine blk_alloc ?_ _)); exact BK237.out), GW236.out, GE236.out, NB217_236.out, NB236_217.out, NB218_236.out, NB236_218.out, NB237_236.out, NB236_237.out, GW237.out, GE237.out, NB217_237.out, NB237_217.out, NB218_237.out, NB237_218.out, (by repeat (first | (with_reducible first | exact HB.out | apply below_alloc | apply pw_below_drewN | apply below_drew1 | refine below_set ?_ GE217.out | refine below_set ?_ GE218.out | refine below_set ?_ GE237.out | refine below_set ?_ GE236.out) | exact HB.out))⟩)
                    · skip
                      rintro gb236 w16 ⟨hS_, h0_, h1_, h2_, h3_, h4_, h5_, h6_, h7_, h8_, h9_⟩
                      have n0_ : Aside0 (w16.heap[gb217]? = some (.cells #[.int .i64 a0_0, .int .i64 a0_1, .int .i64 a0_2, .int .i64 a0_3, .int .i64 a0_4, .int .i64 a0_5, .int .u64 a0_6, .int .i64 a0_7] 26 (0, 0))) := ⟨h0_⟩
                      have n1_ : Aside0 (w16.heap[gb218]? = some (.cells #[.int .i64 a1_0, .int .i64 a1_1, .int .i64 a1_2, .int .i64 a1_3, .int .i64 a1_4, .int .i64 a1_5, .int .u64 a1_6, .int .i64 a1_7] 26 (0, 0))) := ⟨h1_⟩
                      have n2_ : Aside0 (w16.heap[gb236]? = some (.cells #[.int .i64 0, .int .i64 0, .int .i64 0, .int .i64 0, .int .i64 0, .int .i64 0, .int .u64 0, .int .i64 0] 26 (0, 0))) := ⟨h2_⟩
                      have n3_ : Aside0 (w.heap.size ≤ gb236) := ⟨h3_⟩
                      have n4_ : Aside0 (w.heap.size ≤ gb236) := ⟨h4_⟩
                      have n5_ : Aside0 (gb217 ≠ gb236) := ⟨h5_⟩
                      have n6_ : Aside0 (gb236 ≠ gb217) := ⟨h6_⟩
                      have n7_ : Aside0 (gb218 ≠ gb236) := ⟨h7_⟩
                      have n8_ : Aside0 (gb236 ≠ gb218) := ⟨h8_⟩
                      have n9_ : Aside0 (Below w.heap.size w w16) := ⟨h9_⟩
                      clear BK217
                      clear BK218
                      clear HB
                      clear h0_ h1_ h2_ h3_ h4_ h5_ h6_ h7_ h8_ h9_
                      have BK217 := n0_
                      have BK218 := n1_
                      have BK236 := n2_
                      have GW236 := n3_
                      have GE236 := n4_
                      have NB217_236 := n5_
                      have NB236_217 := n6_
                      have NB218_236 := n7_
                      have NB236_218 := n8_
                      have HB := n9_
                      clear n0_ n1_ n2_ n3_ n4_ n5_ n6_ n7_ n8_ n9_
                      have hHeld : w16.cell? ⟨gb217, 0, none⟩ = some (.int .i64 a0_0) ∧ w16.cell? ⟨gb217, 1, none⟩ = some (.int .i64 a0_1) ∧ w16.cell? ⟨gb217, 2, none⟩ = some (.int .i64 a0_2) ∧ w16.cell? ⟨gb217, 3, none⟩ = some (.int .i64 a0_3) ∧ w16.cell? ⟨gb217, 4, none⟩ = some (.int .i64 a0_4) ∧ w16.cell? ⟨gb217, 5, none⟩ = some (.int .i64 a0_5) ∧ w16.cell? ⟨gb217, 6, none⟩ = some (.int .u64 a0_6) ∧ w16.cell? ⟨gb217, 7, none⟩ = some (.int .i64 a0_7) ∧ w16.cell? ⟨gb218, 0, none⟩ = some (.int .i64 a1_0) ∧ w16.cell? ⟨gb218, 1, none⟩ = some (.int .i64 a1_1) ∧ w16.cell? ⟨gb218, 2, none⟩ = some (.int .i64 a1_2) ∧ w16.cell? ⟨gb218, 3, none⟩ = some (.int .i64 a1_3) ∧ w16.cell? ⟨gb218, 4, none⟩ = some (.int .i64 a1_4) ∧ w16.cell? ⟨gb218, 5, none⟩ = some (.int .i64 a1_5) ∧ w16.cell? ⟨gb218, 6, none⟩ = some (.int .u64 a1_6) ∧ w16.cell? ⟨gb218, 7, none⟩ = some (.int .i64 a1_7) := hS_
                      refine norm_ (a' := ?_) ?_ ?_
                      rotate_left
                      · simp only [putAll, Act.put, List.setIfInBounds_toArray, List.set_cons_zero, List.set_cons_succ]
                        rfl
                      refine two_ (i := 1) (j := 5) (Ni := some 14) (Nj := some 6) #[true, true, true, false, true, false, false, false] #[true, false, true, false, true, true, false, false] rfl rfl rfl rfl (two_of HT_.out (by kernel_rfl)) (by decide) (by decide) (fun K hK => ?_) (fun K hK => ?_)
                      · skip
                        refine goes_ Try.func9 (by kernel_rfl) rfl #[.agg #[.int .i64 a0_0, .int .i64 a0_1, .int .i64 a0_2, .int .i64 a0_3, .int .i64 a0_4, .int .i64 a0_5, .int .u64 a0_6, .int .i64 a0_7]] (by rfl) rfl rfl (by (try simp only [List.map_toArray, List.map_cons, List.map_nil]); first | done | rfl | (simp only [List.length_drop, List.length_take]; rfl)) ?_
                        with_reducible refine (tautochronelaw20_Make.calls k a0_0 a0_1 a0_2 a0_3 a0_4 a0_5 a0_6 a0_7 t220 t221 t222 t223 t224 t225 t226 t227 _ A5.out).mono ?_
                        rintro e w17 ⟨rfl, hb⟩
                        refine ⟨_, rfl, ?_⟩
                        have n0_ := Aside0.mk (blk_below (g := gb217) (o := .cells #[.int .i64 a0_0, .int .i64 a0_1, .int .i64 a0_2, .int .i64 a0_3, .int .i64 a0_4, .int .i64 a0_5, .int .u64 a0_6, .int .i64 a0_7] 26 (0, 0)) (by (with_reducible repeat (first | refine blk_drewN ?_ _ | refine blk_drew ?_ | refine blk_alloc ?_ _)); exact BK217.out) hb)
                        have n1_ := Aside0.mk (blk_below (g := gb218) (o := .cells #[.int .i64 a1_0, .int .i64 a1_1, .int .i64 a1_2, .int .i64 a1_3, .int .i64 a1_4, .int .i64 a1_5, .int .u64 a1_6, .int .i64 a1_7] 26 (0, 0)) (by (with_reducible repeat (first | refine blk_drewN ?_ _ | refine blk_drew ?_ | refine blk_alloc ?_ _)); exact BK218.out) hb)
                        have n2_ := Aside0.mk (blk_below (g := gb236) (o := .cells #[.int .i64 0, .int .i64 0, .int .i64 0, .int .i64 0, .int .i64 0, .int .i64 0, .int .u64 0, .int .i64 0] 26 (0, 0)) (by (with_reducible repeat (first | refine blk_drewN ?_ _ | refine blk_drew ?_ | refine blk_alloc ?_ _)); exact BK236.out) hb)
                        have n3_ := Aside0.mk (below_step (by repeat (first | (with_reducible first | exact HB.out | apply below_alloc | apply pw_below_drewN | apply below_drew1 | refine below_set ?_ GE217.out | refine below_set ?_ GE218.out | refine below_set ?_ GE236.out) | exact HB.out)) hb)
                        clear BK217
                        clear BK218
                        clear BK236
                        clear HB
                        have BK217 := n0_
                        have BK218 := n1_
                        have BK236 := n2_
                        have HB := n3_
                        clear n0_ n1_ n2_ n3_
                        (try clear hb)
                        (try clear hb2)
                        (try clear hk)
                        (try clear hi)
                        refine hK.out _ _ ⟨(blk_cell BK217.out 0).trans rfl, (blk_cell BK217.out 1).trans rfl, (blk_cell BK217.out 2).trans rfl, (blk_cell BK217.out 3).trans rfl, (blk_cell BK217.out 4).trans rfl, (blk_cell BK217.out 5).trans rfl, (blk_cell BK217.out 6).trans rfl, (blk_cell BK217.out 7).trans rfl, (blk_cell BK218.out 0).trans rfl, (blk_cell BK218.out 1).trans rfl, (blk_cell BK218.out 2).trans rfl, (blk_cell BK218.out 3).trans rfl, (blk_cell BK218.out 4).trans rfl, (blk_cell BK218.out 5).trans rfl, (blk_cell BK218.out 6).trans rfl, (blk_cell BK218.out 7).trans rfl⟩ (fun hHeld => ?_)
                        clear hK K
                        refine norm_ (a' := ?_) ?_ ?_
                        rotate_left
                        · show Act.put _ (some 14) _ = _
                          simp only [Act.put, List.setIfInBounds_toArray, List.set_cons_zero, List.set_cons_succ, i64_w, i32_w]
                          rfl
                        exact norm_ (by first | (simp only [putAll, Act.put, List.setIfInBounds_toArray, List.set_cons_zero, List.set_cons_succ]; done) | (simp only [putAll, Act.put, List.setIfInBounds_toArray, List.set_cons_zero, List.set_cons_succ]; rfl)) (hJ1_4 (gb236) _ ⟨hHeld, (by (with_reducible repeat (first | refine blk_drewN ?_ _ | refine blk_drew ?_ | refine blk_alloc ?_ _)); exact BK217.out), (by (with_reducible repeat (first | refine blk_drewN ?_ _ | refine blk_drew ?_ | refine blk_alloc ?_ _)); exact BK218.out), (by (with_reducible repeat (first | refine blk_drewN ?_ _ | refine blk_drew ?_ | refine blk_alloc ?_ _)); exact BK236.out), GW236.out, GE236.out, NB217_236.out, NB236_217.out, NB218_236.out, NB236_218.out, (by repeat (first | (with_reducible first | exact HB.out | apply below_alloc | apply pw_below_drewN | apply below_drew1 | refine below_set ?_ GE217.out | refine below_set ?_ GE218.out | refine below_set ?_ GE236.out) | exact HB.out))⟩)
                      · skip
                        refine box_step ?hg (N := 6) ?hd (cs := #[.int .i64 0, .int .i64 0, .int .i64 0, .int .i64 0, .int .i64 0, .int .i64 0, .int .u64 0, .int .i64 0]) (t := 26) ?hr ?_; (case hd => rfl); (case hg => rfl); (case hr => first | (go_simp; done) | (go_simp; rfl))
                        intro gb237 hg w17 hbox hb
                        have n0_ := Aside0.mk (blk_below (g := gb217) (o := .cells #[.int .i64 a0_0, .int .i64 a0_1, .int .i64 a0_2, .int .i64 a0_3, .int .i64 a0_4, .int .i64 a0_5, .int .u64 a0_6, .int .i64 a0_7] 26 (0, 0)) (by (with_reducible repeat (first | refine blk_drewN ?_ _ | refine blk_drew ?_ | refine blk_alloc ?_ _)); exact BK217.out) hb)
                        have n1_ := Aside0.mk (blk_below (g := gb218) (o := .cells #[.int .i64 a1_0, .int .i64 a1_1, .int .i64 a1_2, .int .i64 a1_3, .int .i64 a1_4, .int .i64 a1_5, .int .u64 a1_6, .int .i64 a1_7] 26 (0, 0)) (by (with_reducible repeat (first | refine blk_drewN ?_ _ | refine blk_drew ?_ | refine blk_alloc ?_ _)); exact BK218.out) hb)
                        have n2_ := Aside0.mk (blk_below (g := gb236) (o := .cells #[.int .i64 0, .int .i64 0, .int .i64 0, .int .i64 0, .int .i64 0, .int .i64 0, .int .u64 0, .int .i64 0] 26 (0, 0)) (by (with_reducible repeat (first | refine blk_drewN ?_ _ | refine blk_drew ?_ | refine blk_alloc ?_ _)); exact BK236.out) hb)
                        have n3_ := Aside0.mk (below_step (by repeat (first | (with_reducible first | exact HB.out | apply below_alloc | apply pw_below_drewN | apply below_drew1 | refine below_set ?_ GE217.out | refine below_set ?_ GE218.out | refine below_set ?_ GE236.out) | exact HB.out)) hb)
                        have n4_ := Aside0.mk (hbox)
                        have n5_ := Aside0.mk ((by rw [hg]; exact (below_size (by repeat (first | (with_reducible first | exact HB.out | apply below_alloc | apply pw_below_drewN | apply below_drew1 | refine below_set ?_ GE217.out | refine below_set ?_ GE218.out | refine below_set ?_ GE236.out) | exact HB.out))) : w.heap.size ≤ gb237))
                        have n6_ := Aside0.mk ((by rw [hg]; exact (below_size (by repeat (first | (with_reducible first | exact HB.out | apply below_alloc | apply pw_below_drewN | apply below_drew1 | refine below_set ?_ GE217.out | refine below_set ?_ GE218.out | refine below_set ?_ GE236.out) | exact HB.out))) : w.heap.size ≤ gb237))
                        have n7_ := Aside0.mk ((by rw [hg]; exact Nat.ne_of_lt (blk_lt (g := gb217) (o := .cells #[.int .i64 a0_0, .int .i64 a0_1, .int .i64 a0_2, .int .i64 a0_3, .int .i64 a0_4, .int .i64 a0_5, .int .u64 a0_6, .int .i64 a0_7] 26 (0, 0)) (by (with_reducible repeat (first | refine blk_drewN ?_ _ | refine blk_drew ?_ | refine blk_alloc ?_ _)); exact BK217.out)) : gb217 ≠ gb237))
                        have n8_ := Aside0.mk ((by rw [hg]; exact Nat.ne_of_gt (blk_lt (g := gb217) (o := .cells #[.int .i64 a0_0, .int .i64 a0_1, .int .i64 a0_2, .int .i64 a0_3, .int .i64 a0_4, .int .i64 a0_5, .int .u64 a0_6, .int .i64 a0_7] 26 (0, 0)) (by (with_reducible repeat (first | refine blk_drewN ?_ _ | refine blk_drew ?_ | refine blk_alloc ?_ _)); exact BK217.out)) : gb237 ≠ gb217))
                        have n9_ := Aside0.mk ((by rw [hg]; exact Nat.ne_of_lt (blk_lt (g := gb218) (o := .cells #[.int .i64 a1_0, .int .i64 a1_1, .int .i64 a1_2, .int .i64 a1_3, .int .i64 a1_4, .int .i64 a1_5, .int .u64 a1_6, .int .i64 a1_7] 26 (0, 0)) (by (with_reducible repeat (first | refine blk_drewN ?_ _ | refine blk_drew ?_ | refine blk_alloc ?_ _)); exact BK218.out)) : gb218 ≠ gb237))
                        have n10_ := Aside0.mk ((by rw [hg]; exact Nat.ne_of_gt (blk_lt (g := gb218) (o := .cells #[.int .i64 a1_0, .int .i64 a1_1, .int .i64 a1_2, .int .i64 a1_3, .int .i64 a1_4, .int .i64 a1_5, .int .u64 a1_6, .int .i64 a1_7] 26 (0, 0)) (by (with_reducible repeat (first | refine blk_drewN ?_ _ | refine blk_drew ?_ | refine blk_alloc ?_ _)); exact BK218.out)) : gb237 ≠ gb218))
                        have n11_ := Aside0.mk ((by rw [hg]; exact Nat.ne_of_lt (blk_lt (g := gb236) (o := .cells #[.int .i64 0, .int .i64 0, .int .i64 0, .int .i64 0, .int .i64 0, .int .i64 0, .int .u64 0, .int .i64 0] 26 (0, 0)) (by (with_reducible repeat (first | refine blk_drewN ?_ _ | refine blk_drew ?_ | refine blk_alloc ?_ _)); exact BK236.out)) : gb236 ≠ gb237))
                        have n12_ := Aside0.mk ((by rw [hg]; exact Nat.ne_of_gt (blk_lt (g := gb236) (o := .cells #[.int .i64 0, .int .i64 0, .int .i64 0, .int .i64 0, .int .i64 0, .int .i64 0, .int .u64 0, .int .i64 0] 26 (0, 0)) (by (with_reducible repeat (first | refine blk_drewN ?_ _ | refine blk_drew ?_ | refine blk_alloc ?_ _)); exact BK236.out)) : gb237 ≠ gb236))
                        clear BK217
                        clear BK218
                        clear BK236
                        clear HB
                        have BK217 := n0_
                        have BK218 := n1_
                        have BK236 := n2_
                        have HB := n3_
                        have BK237 := n4_
                        have GW237 := n5_
                        have GE237 := n6_
                        have NB217_237 := n7_
                        have NB237_217 := n8_
                        have NB218_237 := n9_
                        have NB237_218 := n10_
                        have NB236_237 := n11_
                        have NB237_236 := n12_
                        clear n0_ n1_ n2_ n3_ n4_ n5_ n6_ n7_ n8_ n9_ n10_ n11_ n12_
                        clear hb hbox hg
                        refine hK.out _ _ ⟨(blk_cell BK217.out 0).trans rfl, (blk_cell BK217.out 1).trans rfl, (blk_cell BK217.out 2).trans rfl, (blk_cell BK217.out 3).trans rfl, (blk_cell BK217.out 4).trans rfl, (blk_cell BK217.out 5).trans rfl, (blk_cell BK217.out 6).trans rfl, (blk_cell BK217.out 7).trans rfl, (blk_cell BK218.out 0).trans rfl, (blk_cell BK218.out 1).trans rfl, (blk_cell BK218.out 2).trans rfl, (blk_cell BK218.out 3).trans rfl, (blk_cell BK218.out 4).trans rfl, (blk_cell BK218.out 5).trans rfl, (blk_cell BK218.out 6).trans rfl, (blk_cell BK218.out 7).trans rfl⟩ (fun hHeld => ?_)
                        clear hK K
                        refine norm_ (a' := ?_) ?_ ?_
                        rotate_left
                        · show Act.put _ (some 6) _ = _
                          simp only [Act.put, List.setIfInBounds_toArray, List.set_cons_zero, List.set_cons_succ, i64_w, i32_w]
                          rfl
                        exact norm_ (by first | (simp only [putAll, Act.put, List.setIfInBounds_toArray, List.set_cons_zero, List.set_cons_succ]; done) | (simp only [putAll, Act.put, List.setIfInBounds_toArray, List.set_cons_zero, List.set_cons_succ]; rfl)) (hJ4_5 (gb236, gb237) _ ⟨hHeld, (by (with_reducible repeat (first | refine blk_drewN ?_ _ | refine blk_drew ?_ | refine blk_alloc ?_ _)); exact BK217.out), (by (with_reducible repeat (first | refine blk_drewN ?_ _ | refine blk_drew ?_ | refine blk_alloc ?_ _)); exact BK218.out), (by (with_reducible repeat (first | refine blk_drewN ?_ _ | refine blk_drew ?_ | refine blk_alloc ?_ _)); exact BK236.out), (by (with_reducible repeat (first | refine blk_drewN ?_ _ | refine blk_drew ?_ | refine blk_alloc ?_ _)); exact BK237.out), GW236.out, GE236.out, NB217_236.out, NB236_217.out, NB218_236.out, NB236_218.out, NB237_236.out, NB236_237.out, GW237.out, GE237.out, NB217_237.out, NB237_217.out, NB218_237.out, NB237_218.out, (by repeat (first | (with_reducible first | exact HB.out | apply below_alloc | apply pw_below_drewN | apply below_drew1 | refine below_set ?_ GE217.out | refine below_set ?_ GE218.out | refine below_set ?_ GE236.out | refine below_set ?_ GE237.out) | exact HB.out))⟩)
                  · skip
                    rintro _ w16 ⟨hS_, h0_, h1_, h2_⟩
                    have n0_ : Aside0 (w16.heap[gb217]? = some (.cells #[.int .i64 a0_0, .int .i64 a0_1, .int .i64 a0_2, .int .i64 a0_3, .int .i64 a0_4, .int .i64 a0_5, .int .u64 a0_6, .int .i64 a0_7] 26 (0, 0))) := ⟨h0_⟩
                    have n1_ : Aside0 (w16.heap[gb218]? = some (.cells #[.int .i64 a1_0, .int .i64 a1_1, .int .i64 a1_2, .int .i64 a1_3, .int .i64 a1_4, .int .i64 a1_5, .int .u64 a1_6, .int .i64 a1_7] 26 (0, 0))) := ⟨h1_⟩
                    have n2_ : Aside0 (Below w.heap.size w w16) := ⟨h2_⟩
                    clear BK217
                    clear BK218
                    clear HB
                    clear h0_ h1_ h2_
                    have BK217 := n0_
                    have BK218 := n1_
                    have HB := n2_
                    clear n0_ n1_ n2_
                    have hHeld : w16.cell? ⟨gb217, 0, none⟩ = some (.int .i64 a0_0) ∧ w16.cell? ⟨gb217, 1, none⟩ = some (.int .i64 a0_1) ∧ w16.cell? ⟨gb217, 2, none⟩ = some (.int .i64 a0_2) ∧ w16.cell? ⟨gb217, 3, none⟩ = some (.int .i64 a0_3) ∧ w16.cell? ⟨gb217, 4, none⟩ = some (.int .i64 a0_4) ∧ w16.cell? ⟨gb217, 5, none⟩ = some (.int .i64 a0_5) ∧ w16.cell? ⟨gb217, 6, none⟩ = some (.int .u64 a0_6) ∧ w16.cell? ⟨gb217, 7, none⟩ = some (.int .i64 a0_7) ∧ w16.cell? ⟨gb218, 0, none⟩ = some (.int .i64 a1_0) ∧ w16.cell? ⟨gb218, 1, none⟩ = some (.int .i64 a1_1) ∧ w16.cell? ⟨gb218, 2, none⟩ = some (.int .i64 a1_2) ∧ w16.cell? ⟨gb218, 3, none⟩ = some (.int .i64 a1_3) ∧ w16.cell? ⟨gb218, 4, none⟩ = some (.int .i64 a1_4) ∧ w16.cell? ⟨gb218, 5, none⟩ = some (.int .i64 a1_5) ∧ w16.cell? ⟨gb218, 6, none⟩ = some (.int .u64 a1_6) ∧ w16.cell? ⟨gb218, 7, none⟩ = some (.int .i64 a1_7) := hS_
                    refine norm_ (a' := ?_) ?_ ?_
                    rotate_left
                    · simp only [putAll, Act.put, List.setIfInBounds_toArray, List.set_cons_zero, List.set_cons_succ]
                      rfl
                    refine three_ (i := 3) (j := 4) (k := 5) (Ni := some 16) (Nj := some 5) (Nk := some 6) #[true, true, true, true, false, false, false, false] #[true, true, true, false, true, false, false, false] #[true, true, true, false, false, true, false, false] rfl rfl rfl rfl rfl rfl (three_of HT_.out (by kernel_rfl)) (by decide) (by decide) (by decide) (fun K hK => ?_) (fun K hK => ?_) (fun K hK => ?_)
                    · skip
                      refine goes_ Try.func9 (by kernel_rfl) rfl #[.agg #[.int .i64 a1_0, .int .i64 a1_1, .int .i64 a1_2, .int .i64 a1_3, .int .i64 a1_4, .int .i64 a1_5, .int .u64 a1_6, .int .i64 a1_7]] (by rfl) rfl rfl (by (try simp only [List.map_toArray, List.map_cons, List.map_nil]); first | done | rfl | (simp only [List.length_drop, List.length_take]; rfl)) ?_
                      with_reducible refine (tautochronelaw20_Make.calls k a1_0 a1_1 a1_2 a1_3 a1_4 a1_5 a1_6 a1_7 t228 t229 t230 t231 t232 t233 t234 t235 _ A6.out).mono ?_
                      rintro e w17 ⟨rfl, hb⟩
                      refine ⟨_, rfl, ?_⟩
                      have n0_ := Aside0.mk (blk_below (g := gb217) (o := .cells #[.int .i64 a0_0, .int .i64 a0_1, .int .i64 a0_2, .int .i64 a0_3, .int .i64 a0_4, .int .i64 a0_5, .int .u64 a0_6, .int .i64 a0_7] 26 (0, 0)) (by (with_reducible repeat (first | refine blk_drewN ?_ _ | refine blk_drew ?_ | refine blk_alloc ?_ _)); exact BK217.out) hb)
                      have n1_ := Aside0.mk (blk_below (g := gb218) (o := .cells #[.int .i64 a1_0, .int .i64 a1_1, .int .i64 a1_2, .int .i64 a1_3, .int .i64 a1_4, .int .i64 a1_5, .int .u64 a1_6, .int .i64 a1_7] 26 (0, 0)) (by (with_reducible repeat (first | refine blk_drewN ?_ _ | refine blk_drew ?_ | refine blk_alloc ?_ _)); exact BK218.out) hb)
                      have n2_ := Aside0.mk (below_step (by repeat (first | (with_reducible first | exact HB.out | apply below_alloc | apply pw_below_drewN | apply below_drew1 | refine below_set ?_ GE217.out | refine below_set ?_ GE218.out) | exact HB.out)) hb)
                      clear BK217
                      clear BK218
                      clear HB
                      have BK217 := n0_
                      have BK218 := n1_
                      have HB := n2_
                      clear n0_ n1_ n2_
                      (try clear hb)
                      (try clear hb2)
                      (try clear hk)
                      (try clear hi)
                      refine hK.out _ _ ⟨(blk_cell BK217.out 0).trans rfl, (blk_cell BK217.out 1).trans rfl, (blk_cell BK217.out 2).trans rfl, (blk_cell BK217.out 3).trans rfl, (blk_cell BK217.out 4).trans rfl, (blk_cell BK217.out 5).trans rfl, (blk_cell BK217.out 6).trans rfl, (blk_cell BK217.out 7).trans rfl, (blk_cell BK218.out 0).trans rfl, (blk_cell BK218.out 1).trans rfl, (blk_cell BK218.out 2).trans rfl, (blk_cell BK218.out 3).trans rfl, (blk_cell BK218.out 4).trans rfl, (blk_cell BK218.out 5).trans rfl, (blk_cell BK218.out 6).trans rfl, (blk_cell BK218.out 7).trans rfl⟩ (fun hHeld => ?_)
                      clear hK K
                      refine norm_ (a' := ?_) ?_ ?_
                      rotate_left
                      · show Act.put _ (some 16) _ = _
                        simp only [Act.put, List.setIfInBounds_toArray, List.set_cons_zero, List.set_cons_succ, i64_w, i32_w]
                        rfl
                      exact norm_ (by first | (simp only [putAll, Act.put, List.setIfInBounds_toArray, List.set_cons_zero, List.set_cons_succ]; done) | (simp only [putAll, Act.put, List.setIfInBounds_toArray, List.set_cons_zero, List.set_cons_succ]; rfl)) (hJ1_3 () _ ⟨hHeld, (by (with_reducible repeat (first | refine blk_drewN ?_ _ | refine blk_drew ?_ | refine blk_alloc ?_ _)); exact BK217.out), (by (with_reducible repeat (first | refine blk_drewN ?_ _ | refine blk_drew ?_ | refine blk_alloc ?_ _)); exact BK218.out), (by repeat (first | (with_reducible first | exact HB.out | apply below_alloc | apply pw_below_drewN | apply below_drew1 | refine below_set ?_ GE217.out | refine below_set ?_ GE218.out) | exact HB.out))⟩)
                    · skip
                      refine box_step ?hg (N := 5) ?hd (cs := #[.int .i64 0, .int .i64 0, .int .i64 0, .int .i64 0, .int .i64 0, .int .i64 0, .int .u64 0, .int .i64 0]) (t := 26) ?hr ?_; (case hd => rfl); (case hg => rfl); (case hr => first | (go_simp; done) | (go_simp; rfl))
                      intro gb236 hg w17 hbox hb
                      have n0_ := Aside0.mk (blk_below (g := gb217) (o := .cells #[.int .i64 a0_0, .int .i64 a0_1, .int .i64 a0_2, .int .i64 a0_3, .int .i64 a0_4, .int .i64 a0_5, .int .u64 a0_6, .int .i64 a0_7] 26 (0, 0)) (by (with_reducible repeat (first | refine blk_drewN ?_ _ | refine blk_drew ?_ | refine blk_alloc ?_ _)); exact BK217.out) hb)
                      have n1_ := Aside0.mk (blk_below (g := gb218) (o := .cells #[.int .i64 a1_0, .int .i64 a1_1, .int .i64 a1_2, .int .i64 a1_3, .int .i64 a1_4, .int .i64 a1_5, .int .u64 a1_6, .int .i64 a1_7] 26 (0, 0)) (by (with_reducible repeat (first | refine blk_drewN ?_ _ | refine blk_drew ?_ | refine blk_alloc ?_ _)); exact BK218.out) hb)
                      have n2_ := Aside0.mk (below_step (by repeat (first | (with_reducible first | exact HB.out | apply below_alloc | apply pw_below_drewN | apply below_drew1 | refine below_set ?_ GE217.out | refine below_set ?_ GE218.out) | exact HB.out)) hb)
                      have n3_ := Aside0.mk (hbox)
                      have n4_ := Aside0.mk ((by rw [hg]; exact (below_size (by repeat (first | (with_reducible first | exact HB.out | apply below_alloc | apply pw_below_drewN | apply below_drew1 | refine below_set ?_ GE217.out | refine below_set ?_ GE218.out) | exact HB.out))) : w.heap.size ≤ gb236))
                      have n5_ := Aside0.mk ((by rw [hg]; exact (below_size (by repeat (first | (with_reducible first | exact HB.out | apply below_alloc | apply pw_below_drewN | apply below_drew1 | refine below_set ?_ GE217.out | refine below_set ?_ GE218.out) | exact HB.out))) : w.heap.size ≤ gb236))
                      have n6_ := Aside0.mk ((by rw [hg]; exact Nat.ne_of_lt (blk_lt (g := gb217) (o := .cells #[.int .i64 a0_0, .int .i64 a0_1, .int .i64 a0_2, .int .i64 a0_3, .int .i64 a0_4, .int .i64 a0_5, .int .u64 a0_6, .int .i64 a0_7] 26 (0, 0)) (by (with_reducible repeat (first | refine blk_drewN ?_ _ | refine blk_drew ?_ | refine blk_alloc ?_ _)); exact BK217.out)) : gb217 ≠ gb236))
                      have n7_ := Aside0.mk ((by rw [hg]; exact Nat.ne_of_gt (blk_lt (g := gb217) (o := .cells #[.int .i64 a0_0, .int .i64 a0_1, .int .i64 a0_2, .int .i64 a0_3, .int .i64 a0_4, .int .i64 a0_5, .int .u64 a0_6, .int .i64 a0_7] 26 (0, 0)) (by (with_reducible repeat (first | refine blk_drewN ?_ _ | refine blk_drew ?_ | refine blk_alloc ?_ _)); exact BK217.out)) : gb236 ≠ gb217))
                      have n8_ := Aside0.mk ((by rw [hg]; exact Nat.ne_of_lt (blk_lt (g := gb218) (o := .cells #[.int .i64 a1_0, .int .i64 a1_1, .int .i64 a1_2, .int .i64 a1_3, .int .i64 a1_4, .int .i64 a1_5, .int .u64 a1_6, .int .i64 a1_7] 26 (0, 0)) (by (with_reducible repeat (first | refine blk_drewN ?_ _ | refine blk_drew ?_ | refine blk_alloc ?_ _)); exact BK218.out)) : gb218 ≠ gb236))
                      have n9_ := Aside0.mk ((by rw [hg]; exact Nat.ne_of_gt (blk_lt (g := gb218) (o := .cells #[.int .i64 a1_0, .int .i64 a1_1, .int .i64 a1_2, .int .i64 a1_3, .int .i64 a1_4, .int .i64 a1_5, .int .u64 a1_6, .int .i64 a1_7] 26 (0, 0)) (by (with_reducible repeat (first | refine blk_drewN ?_ _ | refine blk_drew ?_ | refine blk_alloc ?_ _)); exact BK218.out)) : gb236 ≠ gb218))
                      clear BK217
                      clear BK218
                      clear HB
                      have BK217 := n0_
                      have BK218 := n1_
                      have HB := n2_
                      have BK236 := n3_
                      have GW236 := n4_
                      have GE236 := n5_
                      have NB217_236 := n6_
                      have NB236_217 := n7_
                      have NB218_236 := n8_
                      have NB236_218 := n9_
                      clear n0_ n1_ n2_ n3_ n4_ n5_ n6_ n7_ n8_ n9_
                      clear hb hbox hg
                      refine hK.out _ _ ⟨(blk_cell BK217.out 0).trans rfl, (blk_cell BK217.out 1).trans rfl, (blk_cell BK217.out 2).trans rfl, (blk_cell BK217.out 3).trans rfl, (blk_cell BK217.out 4).trans rfl, (blk_cell BK217.out 5).trans rfl, (blk_cell BK217.out 6).trans rfl, (blk_cell BK217.out 7).trans rfl, (blk_cell BK218.out 0).trans rfl, (blk_cell BK218.out 1).trans rfl, (blk_cell BK218.out 2).trans rfl, (blk_cell BK218.out 3).trans rfl, (blk_cell BK218.out 4).trans rfl, (blk_cell BK218.out 5).trans rfl, (blk_cell BK218.out 6).trans rfl, (blk_cell BK218.out 7).trans rfl⟩ (fun hHeld => ?_)
                      clear hK K
                      refine norm_ (a' := ?_) ?_ ?_
                      rotate_left
                      · show Act.put _ (some 5) _ = _
                        simp only [Act.put, List.setIfInBounds_toArray, List.set_cons_zero, List.set_cons_succ, i64_w, i32_w]
                        rfl
                      exact norm_ (by first | (simp only [putAll, Act.put, List.setIfInBounds_toArray, List.set_cons_zero, List.set_cons_succ]; done) | (simp only [putAll, Act.put, List.setIfInBounds_toArray, List.set_cons_zero, List.set_cons_succ]; rfl)) (hJ1_4 (gb236) _ ⟨hHeld, (by (with_reducible repeat (first | refine blk_drewN ?_ _ | refine blk_drew ?_ | refine blk_alloc ?_ _)); exact BK217.out), (by (with_reducible repeat (first | refine blk_drewN ?_ _ | refine blk_drew ?_ | refine blk_alloc ?_ _)); exact BK218.out), (by (with_reducible repeat (first | refine blk_drewN ?_ _ | refine blk_drew ?_ | refine blk_alloc ?_ _)); exact BK236.out), GW236.out, GE236.out, NB217_236.out, NB236_217.out, NB218_236.out, NB236_218.out, (by repeat (first | (with_reducible first | exact HB.out | apply below_alloc | apply pw_below_drewN | apply below_drew1 | refine below_set ?_ GE217.out | refine below_set ?_ GE218.out | refine below_set ?_ GE236.out) | exact HB.out))⟩)
                    · skip
                      refine box_step ?hg (N := 6) ?hd (cs := #[.int .i64 0, .int .i64 0, .int .i64 0, .int .i64 0, .int .i64 0, .int .i64 0, .int .u64 0, .int .i64 0]) (t := 26) ?hr ?_; (case hd => rfl); (case hg => rfl); (case hr => first | (go_simp; done) | (go_simp; rfl))
                      intro gb237 hg w17 hbox hb
                      have n0_ := Aside0.mk (blk_below (g := gb217) (o := .cells #[.int .i64 a0_0, .int .i64 a0_1, .int .i64 a0_2, .int .i64 a0_3, .int .i64 a0_4, .int .i64 a0_5, .int .u64 a0_6, .int .i64 a0_7] 26 (0, 0)) (by (with_reducible repeat (first | refine blk_drewN ?_ _ | refine blk_drew ?_ | refine blk_alloc ?_ _)); exact BK217.out) hb)
                      have n1_ := Aside0.mk (blk_below (g := gb218) (o := .cells #[.int .i64 a1_0, .int .i64 a1_1, .int .i64 a1_2, .int .i64 a1_3, .int .i64 a1_4, .int .i64 a1_5, .int .u64 a1_6, .int .i64 a1_7] 26 (0, 0)) (by (with_reducible repeat (first | refine blk_drewN ?_ _ | refine blk_drew ?_ | refine blk_alloc ?_ _)); exact BK218.out) hb)
                      have n2_ := Aside0.mk (below_step (by repeat (first | (with_reducible first | exact HB.out | apply below_alloc | apply pw_below_drewN | apply below_drew1 | refine below_set ?_ GE217.out | refine below_set ?_ GE218.out) | exact HB.out)) hb)
                      have n3_ := Aside0.mk (hbox)
                      have n4_ := Aside0.mk ((by rw [hg]; exact (below_size (by repeat (first | (with_reducible first | exact HB.out | apply below_alloc | apply pw_below_drewN | apply below_drew1 | refine below_set ?_ GE217.out | refine below_set ?_ GE218.out) | exact HB.out))) : w.heap.size ≤ gb237))
                      have n5_ := Aside0.mk ((by rw [hg]; exact (below_size (by repeat (first | (with_reducible first | exact HB.out | apply below_alloc | apply pw_below_drewN | apply below_drew1 | refine below_set ?_ GE217.out | refine below_set ?_ GE218.out) | exact HB.out))) : w.heap.size ≤ gb237))
                      have n6_ := Aside0.mk ((by rw [hg]; exact Nat.ne_of_lt (blk_lt (g := gb217) (o := .cells #[.int .i64 a0_0, .int .i64 a0_1, .int .i64 a0_2, .int .i64 a0_3, .int .i64 a0_4, .int .i64 a0_5, .int .u64 a0_6, .int .i64 a0_7] 26 (0, 0)) (by (with_reducible repeat (first | refine blk_drewN ?_ _ | refine blk_drew ?_ | refine blk_alloc ?_ _)); exact BK217.out)) : gb217 ≠ gb237))
                      have n7_ := Aside0.mk ((by rw [hg]; exact Nat.ne_of_gt (blk_lt (g := gb217) (o := .cells #[.int .i64 a0_0, .int .i64 a0_1, .int .i64 a0_2, .int .i64 a0_3, .int .i64 a0_4, .int .i64 a0_5, .int .u64 a0_6, .int .i64 a0_7] 26 (0, 0)) (by (with_reducible repeat (first | refine blk_drewN ?_ _ | refine blk_drew ?_ | refine blk_alloc ?_ _)); exact BK217.out)) : gb237 ≠ gb217))
                      have n8_ := Aside0.mk ((by rw [hg]; exact Nat.ne_of_lt (blk_lt (g := gb218) (o := .cells #[.int .i64 a1_0, .int .i64 a1_1, .int .i64 a1_2, .int .i64 a1_3, .int .i64 a1_4, .int .i64 a1_5, .int .u64 a1_6, .int .i64 a1_7] 26 (0, 0)) (by (with_reducible repeat (first | refine blk_drewN ?_ _ | refine blk_drew ?_ | refine blk_alloc ?_ _)); exact BK218.out)) : gb218 ≠ gb237))
                      have n9_ := Aside0.mk ((by rw [hg]; exact Nat.ne_of_gt (blk_lt (g := gb218) (o := .cells #[.int .i64 a1_0, .int .i64 a1_1, .int .i64 a1_2, .int .i64 a1_3, .int .i64 a1_4, .int .i64 a1_5, .int .u64 a1_6, .int .i64 a1_7] 26 (0, 0)) (by (with_reducible repeat (first | refine blk_drewN ?_ _ | refine blk_drew ?_ | refine blk_alloc ?_ _)); exact BK218.out)) : gb237 ≠ gb218))
                      clear BK217
                      clear BK218
                      clear HB
                      have BK217 := n0_
                      have BK218 := n1_
                      have HB := n2_
                      have BK237 := n3_
                      have GW237 := n4_
                      have GE237 := n5_
                      have NB217_237 := n6_
                      have NB237_217 := n7_
                      have NB218_237 := n8_
                      have NB237_218 := n9_
                      clear n0_ n1_ n2_ n3_ n4_ n5_ n6_ n7_ n8_ n9_
                      clear hb hbox hg
                      refine hK.out _ _ ⟨(blk_cell BK217.out 0).trans rfl, (blk_cell BK217.out 1).trans rfl, (blk_cell BK217.out 2).trans rfl, (blk_cell BK217.out 3).trans rfl, (blk_cell BK217.out 4).trans rfl, (blk_cell BK217.out 5).trans rfl, (blk_cell BK217.out 6).trans rfl, (blk_cell BK217.out 7).trans rfl, (blk_cell BK218.out 0).trans rfl, (blk_cell BK218.out 1).trans rfl, (blk_cell BK218.out 2).trans rfl, (blk_cell BK218.out 3).trans rfl, (blk_cell BK218.out 4).trans rfl, (blk_cell BK218.out 5).trans rfl, (blk_cell BK218.out 6).trans rfl, (blk_cell BK218.out 7).trans rfl⟩ (fun hHeld => ?_)
                      clear hK K
                      refine norm_ (a' := ?_) ?_ ?_
                      rotate_left
                      · show Act.put _ (some 6) _ = _
                        simp only [Act.put, List.setIfInBounds_toArray, List.set_cons_zero, List.set_cons_succ, i64_w, i32_w]
                        rfl
                      exact norm_ (by first | (simp only [putAll, Act.put, List.setIfInBounds_toArray, List.set_cons_zero, List.set_cons_succ]; done) | (simp only [putAll, Act.put, List.setIfInBounds_toArray, List.set_cons_zero, List.set_cons_succ]; rfl)) (hJ1_5 (gb237) _ ⟨hHeld, (by (with_reducible repeat (first | refine blk_drewN ?_ _ | refine blk_drew ?_ | refine blk_alloc ?_ _)); exact BK217.out), (by (with_reducible repeat (first | refine blk_drewN ?_ _ | refine blk_drew ?_ | refine blk_alloc ?_ _)); exact BK218.out), (by (with_reducible repeat (first | refine blk_drewN ?_ _ | refine blk_drew ?_ | refine blk_alloc ?_ _)); exact BK237.out), GW237.out, GE237.out, NB217_237.out, NB237_217.out, NB218_237.out, NB237_218.out, (by repeat (first | (with_reducible first | exact HB.out | apply below_alloc | apply pw_below_drewN | apply below_drew1 | refine below_set ?_ GE217.out | refine below_set ?_ GE218.out | refine below_set ?_ GE237.out) | exact HB.out))⟩)
                · skip
                  rintro ⟨gb236, gb237⟩ w17 ⟨hS_, h0_, h1_, h2_, h3_, h4_, h5_, h6_, h7_, h8_, h9_, h10_, h11_, h12_, h13_, h14_, h15_, h16_, h17_, h18_⟩
                  have n0_ : Aside0 (w17.heap[gb217]? = some (.cells #[.int .i64 a0_0, .int .i64 a0_1, .int .i64 a0_2, .int .i64 a0_3, .int .i64 a0_4, .int .i64 a0_5, .int .u64 a0_6, .int .i64 a0_7] 26 (0, 0))) := ⟨h0_⟩
                  have n1_ : Aside0 (w17.heap[gb218]? = some (.cells #[.int .i64 a1_0, .int .i64 a1_1, .int .i64 a1_2, .int .i64 a1_3, .int .i64 a1_4, .int .i64 a1_5, .int .u64 a1_6, .int .i64 a1_7] 26 (0, 0))) := ⟨h1_⟩
                  have n2_ : Aside0 (w17.heap[gb236]? = some (.cells #[.int .i64 0, .int .i64 0, .int .i64 0, .int .i64 0, .int .i64 0, .int .i64 0, .int .u64 0, .int .i64 0] 26 (0, 0))) := ⟨h2_⟩
                  have n3_ : Aside0 (w17.heap[gb237]? = some (.cells #[.int .i64 0, .int .i64 0, .int .i64 0, .int .i64 0, .int .i64 0, .int .i64 0, .int .u64 0, .int .i64 0] 26 (0, 0))) := ⟨h3_⟩
                  have n4_ : Aside0 (w.heap.size ≤ gb236) := ⟨h4_⟩
                  have n5_ : Aside0 (w.heap.size ≤ gb236) := ⟨h5_⟩
                  have n6_ : Aside0 (gb217 ≠ gb236) := ⟨h6_⟩
                  have n7_ : Aside0 (gb236 ≠ gb217) := ⟨h7_⟩
                  have n8_ : Aside0 (gb218 ≠ gb236) := ⟨h8_⟩
                  have n9_ : Aside0 (gb236 ≠ gb218) := ⟨h9_⟩
                  have n10_ : Aside0 (gb237 ≠ gb236) := ⟨h10_⟩
                  have n11_ : Aside0 (gb236 ≠ gb237) := ⟨h11_⟩
                  have n12_ : Aside0 (w.heap.size ≤ gb237) := ⟨h12_⟩
                  have n13_ : Aside0 (w.heap.size ≤ gb237) := ⟨h13_⟩
                  have n14_ : Aside0 (gb217 ≠ gb237) := ⟨h14_⟩
                  have n15_ : Aside0 (gb237 ≠ gb217) := ⟨h15_⟩
                  have n16_ : Aside0 (gb218 ≠ gb237) := ⟨h16_⟩
                  have n17_ : Aside0 (gb237 ≠ gb218) := ⟨h17_⟩
                  have n18_ : Aside0 (Below w.heap.size w w17) := ⟨h18_⟩
                  clear BK217
                  clear BK218
                  clear HB
                  clear h0_ h1_ h2_ h3_ h4_ h5_ h6_ h7_ h8_ h9_ h10_ h11_ h12_ h13_ h14_ h15_ h16_ h17_ h18_
                  have BK217 := n0_
                  have BK218 := n1_
                  have BK236 := n2_
                  have BK237 := n3_
                  have GW236 := n4_
                  have GE236 := n5_
                  have NB217_236 := n6_
                  have NB236_217 := n7_
                  have NB218_236 := n8_
                  have NB236_218 := n9_
                  have NB237_236 := n10_
                  have NB236_237 := n11_
                  have GW237 := n12_
                  have GE237 := n13_
                  have NB217_237 := n14_
                  have NB237_217 := n15_
                  have NB218_237 := n16_
                  have NB237_218 := n17_
                  have HB := n18_
                  clear n0_ n1_ n2_ n3_ n4_ n5_ n6_ n7_ n8_ n9_ n10_ n11_ n12_ n13_ n14_ n15_ n16_ n17_ n18_
                  have hHeld : w17.cell? ⟨gb217, 0, none⟩ = some (.int .i64 a0_0) ∧ w17.cell? ⟨gb217, 1, none⟩ = some (.int .i64 a0_1) ∧ w17.cell? ⟨gb217, 2, none⟩ = some (.int .i64 a0_2) ∧ w17.cell? ⟨gb217, 3, none⟩ = some (.int .i64 a0_3) ∧ w17.cell? ⟨gb217, 4, none⟩ = some (.int .i64 a0_4) ∧ w17.cell? ⟨gb217, 5, none⟩ = some (.int .i64 a0_5) ∧ w17.cell? ⟨gb217, 6, none⟩ = some (.int .u64 a0_6) ∧ w17.cell? ⟨gb217, 7, none⟩ = some (.int .i64 a0_7) ∧ w17.cell? ⟨gb218, 0, none⟩ = some (.int .i64 a1_0) ∧ w17.cell? ⟨gb218, 1, none⟩ = some (.int .i64 a1_1) ∧ w17.cell? ⟨gb218, 2, none⟩ = some (.int .i64 a1_2) ∧ w17.cell? ⟨gb218, 3, none⟩ = some (.int .i64 a1_3) ∧ w17.cell? ⟨gb218, 4, none⟩ = some (.int .i64 a1_4) ∧ w17.cell? ⟨gb218, 5, none⟩ = some (.int .i64 a1_5) ∧ w17.cell? ⟨gb218, 6, none⟩ = some (.int .u64 a1_6) ∧ w17.cell? ⟨gb218, 7, none⟩ = some (.int .i64 a1_7) := hS_
                  refine norm_ (a' := ?_) ?_ ?_
                  rotate_left
                  · simp only [putAll, Act.put, List.setIfInBounds_toArray, List.set_cons_zero, List.set_cons_succ]
                    rfl
                  refine one_ (i := 1) (N := some 14) #[true, true, true, false, true, true, false, false] rfl rfl (one_of HT_.out (by kernel_rfl)) (by decide) (fun K hK => ?_)
                  refine goes_ Try.func9 (by kernel_rfl) rfl #[.agg #[.int .i64 a0_0, .int .i64 a0_1, .int .i64 a0_2, .int .i64 a0_3, .int .i64 a0_4, .int .i64 a0_5, .int .u64 a0_6, .int .i64 a0_7]] (by rfl) rfl rfl (by (try simp only [List.map_toArray, List.map_cons, List.map_nil]); first | done | rfl | (simp only [List.length_drop, List.length_take]; rfl)) ?_
                  with_reducible refine (tautochronelaw20_Make.calls k a0_0 a0_1 a0_2 a0_3 a0_4 a0_5 a0_6 a0_7 t220 t221 t222 t223 t224 t225 t226 t227 _ A5.out).mono ?_
                  rintro e w18 ⟨rfl, hb⟩
                  refine ⟨_, rfl, ?_⟩
                  have n0_ := Aside0.mk (blk_below (g := gb217) (o := .cells #[.int .i64 a0_0, .int .i64 a0_1, .int .i64 a0_2, .int .i64 a0_3, .int .i64 a0_4, .int .i64 a0_5, .int .u64 a0_6, .int .i64 a0_7] 26 (0, 0)) (by (with_reducible repeat (first | refine blk_drewN ?_ _ | refine blk_drew ?_ | refine blk_alloc ?_ _)); exact BK217.out) hb)
                  have n1_ := Aside0.mk (blk_below (g := gb218) (o := .cells #[.int .i64 a1_0, .int .i64 a1_1, .int .i64 a1_2, .int .i64 a1_3, .int .i64 a1_4, .int .i64 a1_5, .int .u64 a1_6, .int .i64 a1_7] 26 (0, 0)) (by (with_reducible repeat (first | refine blk_drewN ?_ _ | refine blk_drew ?_ | refine blk_alloc ?_ _)); exact BK218.out) hb)
                  have n2_ := Aside0.mk (blk_below (g := gb236) (o := .cells #[.int .i64 0, .int .i64 0, .int .i64 0, .int .i64 0, .int .i64 0, .int .i64 0, .int .u64 0, .int .i64 0] 26 (0, 0)) (by (with_reducible repeat (first | refine blk_drewN ?_ _ | refine blk_drew ?_ | refine blk_alloc ?_ _)); exact BK236.out) hb)
                  have n3_ := Aside0.mk (blk_below (g := gb237) (o := .cells #[.int .i64 0, .int .i64 0, .int .i64 0, .int .i64 0, .int .i64 0, .int .i64 0, .int .u64 0, .int .i64 0] 26 (0, 0)) (by (with_reducible repeat (first | refine blk_drewN ?_ _ | refine blk_drew ?_ | refine blk_alloc ?_ _)); exact BK237.out) hb)
                  have n4_ := Aside0.mk (below_step (by repeat (first | (with_reducible first | exact HB.out | apply below_alloc | apply pw_below_drewN | apply below_drew1 | refine below_set ?_ GE217.out | refine below_set ?_ GE218.out | refine below_set ?_ GE236.out | refine below_set ?_ GE237.out) | exact HB.out)) hb)
                  clear BK217
                  clear BK218
                  clear BK236
                  clear BK237
                  clear HB
                  have BK217 := n0_
                  have BK218 := n1_
                  have BK236 := n2_
                  have BK237 := n3_
                  have HB := n4_
                  clear n0_ n1_ n2_ n3_ n4_
                  (try clear hb)
                  (try clear hb2)
                  (try clear hk)
                  (try clear hi)
                  refine hK.out _ _ ⟨(blk_cell BK217.out 0).trans rfl, (blk_cell BK217.out 1).trans rfl, (blk_cell BK217.out 2).trans rfl, (blk_cell BK217.out 3).trans rfl, (blk_cell BK217.out 4).trans rfl, (blk_cell BK217.out 5).trans rfl, (blk_cell BK217.out 6).trans rfl, (blk_cell BK217.out 7).trans rfl, (blk_cell BK218.out 0).trans rfl, (blk_cell BK218.out 1).trans rfl, (blk_cell BK218.out 2).trans rfl, (blk_cell BK218.out 3).trans rfl, (blk_cell BK218.out 4).trans rfl, (blk_cell BK218.out 5).trans rfl, (blk_cell BK218.out 6).trans rfl, (blk_cell BK218.out 7).trans rfl⟩ (fun hHeld => ?_)
                  clear hK K
                  refine norm_ (a' := ?_) ?_ ?_
                  rotate_left
                  · show Act.put _ (some 14) _ = _
                    simp only [Act.put, List.setIfInBounds_toArray, List.set_cons_zero, List.set_cons_succ, i64_w, i32_w]
                    rfl
                  exact norm_ (by first | (simp only [putAll, Act.put, List.setIfInBounds_toArray, List.set_cons_zero, List.set_cons_succ]; done) | (simp only [putAll, Act.put, List.setIfInBounds_toArray, List.set_cons_zero, List.set_cons_succ]; rfl)) (hJ1_4_5 (gb236, gb237) _ ⟨hHeld, (by (with_reducible repeat (first | refine blk_drewN ?_ _ | refine blk_drew ?_ | refine blk_alloc ?_ _)); exact BK217.out), (by (with_reducible repeat (first | refine blk_drewN ?_ _ | refine blk_drew ?_ | refine blk_alloc ?_ _)); exact BK218.out), (by (with_reducible repeat (first | refine blk_drewN ?_ _ | refine blk_drew ?_ | refine blk_alloc ?_ _)); exact BK236.out), (by (with_reducible repeat (first | refine blk_drewN ?_ _ | refine blk_drew ?_ | refine blk_alloc ?_ _)); exact BK237.out), GW236.out, GE236.out, NB217_236.out, NB236_217.out, NB218_236.out, NB236_218.out, NB237_236.out, NB236_237.out, GW237.out, GE237.out, NB217_237.out, NB237_217.out, NB218_237.out, NB237_218.out, (by repeat (first | (with_reducible first | exact HB.out | apply below_alloc | apply pw_below_drewN | apply below_drew1 | refine below_set ?_ GE217.out | refine below_set ?_ GE218.out | refine below_set ?_ GE236.out | refine below_set ?_ GE237.out) | exact HB.out))⟩)
              · skip
                rintro gb237 w17 ⟨hS_, h0_, h1_, h2_, h3_, h4_, h5_, h6_, h7_, h8_, h9_⟩
                have n0_ : Aside0 (w17.heap[gb217]? = some (.cells #[.int .i64 a0_0, .int .i64 a0_1, .int .i64 a0_2, .int .i64 a0_3, .int .i64 a0_4, .int .i64 a0_5, .int .u64 a0_6, .int .i64 a0_7] 26 (0, 0))) := ⟨h0_⟩
                have n1_ : Aside0 (w17.heap[gb218]? = some (.cells #[.int .i64 a1_0, .int .i64 a1_1, .int .i64 a1_2, .int .i64 a1_3, .int .i64 a1_4, .int .i64 a1_5, .int .u64 a1_6, .int .i64 a1_7] 26 (0, 0))) := ⟨h1_⟩
                have n2_ : Aside0 (w17.heap[gb237]? = some (.cells #[.int .i64 0, .int .i64 0, .int .i64 0, .int .i64 0, .int .i64 0, .int .i64 0, .int .u64 0, .int .i64 0] 26 (0, 0))) := ⟨h2_⟩
                have n3_ : Aside0 (w.heap.size ≤ gb237) := ⟨h3_⟩
                have n4_ : Aside0 (w.heap.size ≤ gb237) := ⟨h4_⟩
                have n5_ : Aside0 (gb217 ≠ gb237) := ⟨h5_⟩
                have n6_ : Aside0 (gb237 ≠ gb217) := ⟨h6_⟩
                have n7_ : Aside0 (gb218 ≠ gb237) := ⟨h7_⟩
                have n8_ : Aside0 (gb237 ≠ gb218) := ⟨h8_⟩
                have n9_ : Aside0 (Below w.heap.size w w17) := ⟨h9_⟩
                clear BK217
                clear BK218
                clear HB
                clear h0_ h1_ h2_ h3_ h4_ h5_ h6_ h7_ h8_ h9_
                have BK217 := n0_
                have BK218 := n1_
                have BK237 := n2_
                have GW237 := n3_
                have GE237 := n4_
                have NB217_237 := n5_
                have NB237_217 := n6_
                have NB218_237 := n7_
                have NB237_218 := n8_
                have HB := n9_
                clear n0_ n1_ n2_ n3_ n4_ n5_ n6_ n7_ n8_ n9_
                have hHeld : w17.cell? ⟨gb217, 0, none⟩ = some (.int .i64 a0_0) ∧ w17.cell? ⟨gb217, 1, none⟩ = some (.int .i64 a0_1) ∧ w17.cell? ⟨gb217, 2, none⟩ = some (.int .i64 a0_2) ∧ w17.cell? ⟨gb217, 3, none⟩ = some (.int .i64 a0_3) ∧ w17.cell? ⟨gb217, 4, none⟩ = some (.int .i64 a0_4) ∧ w17.cell? ⟨gb217, 5, none⟩ = some (.int .i64 a0_5) ∧ w17.cell? ⟨gb217, 6, none⟩ = some (.int .u64 a0_6) ∧ w17.cell? ⟨gb217, 7, none⟩ = some (.int .i64 a0_7) ∧ w17.cell? ⟨gb218, 0, none⟩ = some (.int .i64 a1_0) ∧ w17.cell? ⟨gb218, 1, none⟩ = some (.int .i64 a1_1) ∧ w17.cell? ⟨gb218, 2, none⟩ = some (.int .i64 a1_2) ∧ w17.cell? ⟨gb218, 3, none⟩ = some (.int .i64 a1_3) ∧ w17.cell? ⟨gb218, 4, none⟩ = some (.int .i64 a1_4) ∧ w17.cell? ⟨gb218, 5, none⟩ = some (.int .i64 a1_5) ∧ w17.cell? ⟨gb218, 6, none⟩ = some (.int .u64 a1_6) ∧ w17.cell? ⟨gb218, 7, none⟩ = some (.int .i64 a1_7) := hS_
                refine norm_ (a' := ?_) ?_ ?_
                rotate_left
                · simp only [putAll, Act.put, List.setIfInBounds_toArray, List.set_cons_zero, List.set_cons_succ]
                  rfl
                refine two_ (i := 3) (j := 4) (Ni := some 16) (Nj := some 5) #[true, true, true, true, false, true, false, false] #[true, true, true, false, true, true, false, false] rfl rfl rfl rfl (two_of HT_.out (by kernel_rfl)) (by decide) (by decide) (fun K hK => ?_) (fun K hK => ?_)
                · skip
                  refine goes_ Try.func9 (by kernel_rfl) rfl #[.agg #[.int .i64 a1_0, .int .i64 a1_1, .int .i64 a1_2, .int .i64 a1_3, .int .i64 a1_4, .int .i64 a1_5, .int .u64 a1_6, .int .i64 a1_7]] (by rfl) rfl rfl (by (try simp only [List.map_toArray, List.map_cons, List.map_nil]); first | done | rfl | (simp only [List.length_drop, List.length_take]; rfl)) ?_
                  with_reducible refine (tautochronelaw20_Make.calls k a1_0 a1_1 a1_2 a1_3 a1_4 a1_5 a1_6 a1_7 t228 t229 t230 t231 t232 t233 t234 t235 _ A6.out).mono ?_
                  rintro e w18 ⟨rfl, hb⟩
                  refine ⟨_, rfl, ?_⟩
                  have n0_ := Aside0.mk (blk_below (g := gb217) (o := .cells #[.int .i64 a0_0, .int .i64 a0_1, .int .i64 a0_2, .int .i64 a0_3, .int .i64 a0_4, .int .i64 a0_5, .int .u64 a0_6, .int .i64 a0_7] 26 (0, 0)) (by (with_reducible repeat (first | refine blk_drewN ?_ _ | refine blk_drew ?_ | refine blk_alloc ?_ _)); exact BK217.out) hb)
                  have n1_ := Aside0.mk (blk_below (g := gb218) (o := .cells #[.int .i64 a1_0, .int .i64 a1_1, .int .i64 a1_2, .int .i64 a1_3, .int .i64 a1_4, .int .i64 a1_5, .int .u64 a1_6, .int .i64 a1_7] 26 (0, 0)) (by (with_reducible repeat (first | refine blk_drewN ?_ _ | refine blk_drew ?_ | refine blk_alloc ?_ _)); exact BK218.out) hb)
                  have n2_ := Aside0.mk (blk_below (g := gb237) (o := .cells #[.int .i64 0, .int .i64 0, .int .i64 0, .int .i64 0, .int .i64 0, .int .i64 0, .int .u64 0, .int .i64 0] 26 (0, 0)) (by (with_reducible repeat (first | refine blk_drewN ?_ _ | refine blk_drew ?_ | refine blk_alloc ?_ _)); exact BK237.out) hb)
                  have n3_ := Aside0.mk (below_step (by repeat (first | (with_reducible first | exact HB.out | apply below_alloc | apply pw_below_drewN | apply below_drew1 | refine below_set ?_ GE217.out | refine below_set ?_ GE218.out | refine below_set ?_ GE237.out) | exact HB.out)) hb)
                  clear BK217
                  clear BK218
                  clear BK237
                  clear HB
                  have BK217 := n0_
                  have BK218 := n1_
                  have BK237 := n2_
                  have HB := n3_
                  clear n0_ n1_ n2_ n3_
                  (try clear hb)
                  (try clear hb2)
                  (try clear hk)
                  (try clear hi)
                  refine hK.out _ _ ⟨(blk_cell BK217.out 0).trans rfl, (blk_cell BK217.out 1).trans rfl, (blk_cell BK217.out 2).trans rfl, (blk_cell BK217.out 3).trans rfl, (blk_cell BK217.out 4).trans rfl, (blk_cell BK217.out 5).trans rfl, (blk_cell BK217.out 6).trans rfl, (blk_cell BK217.out 7).trans rfl, (blk_cell BK218.out 0).trans rfl, (blk_cell BK218.out 1).trans rfl, (blk_cell BK218.out 2).trans rfl, (blk_cell BK218.out 3).trans rfl, (blk_cell BK218.out 4).trans rfl, (blk_cell BK218.out 5).trans rfl, (blk_cell BK218.out 6).trans rfl, (blk_cell BK218.out 7).trans rfl⟩ (fun hHeld => ?_)
                  clear hK K
                  refine norm_ (a' := ?_) ?_ ?_
                  rotate_left
                  · show Act.put _ (some 16) _ = _
                    simp only [Act.put, List.setIfInBounds_toArray, List.set_cons_zero, List.set_cons_succ, i64_w, i32_w]
                    rfl
                  exact norm_ (by first | (simp only [putAll, Act.put, List.setIfInBounds_toArray, List.set_cons_zero, List.set_cons_succ]; done) | (simp only [putAll, Act.put, List.setIfInBounds_toArray, List.set_cons_zero, List.set_cons_succ]; rfl)) (hJ1_3_5 (gb237) _ ⟨hHeld, (by (with_reducible repeat (first | refine blk_drewN ?_ _ | refine blk_drew ?_ | refine blk_alloc ?_ _)); exact BK217.out), (by (with_reducible repeat (first | refine blk_drewN ?_ _ | refine blk_drew ?_ | refine blk_alloc ?_ _)); exact BK218.out), (by (with_reducible repeat (first | refine blk_drewN ?_ _ | refine blk_drew ?_ | refine blk_alloc ?_ _)); exact BK237.out), GW237.out, GE237.out, NB217_237.out, NB237_217.out, NB218_237.out, NB237_218.out, (by repeat (first | (with_reducible first | exact HB.out | apply below_alloc | apply pw_below_drewN | apply below_drew1 | refine below_set ?_ GE217.out | refine below_set ?_ GE218.out | refine below_set ?_ GE237.out) | exact HB.out))⟩)
                · skip
                  refine box_step ?hg (N := 5) ?hd (cs := #[.int .i64 0, .int .i64 0, .int .i64 0, .int .i64 0, .int .i64 0, .int .i64 0, .int .u64 0, .int .i64 0]) (t := 26) ?hr ?_; (case hd => rfl); (case hg => rfl); (case hr => first | (go_simp; done) | (go_simp; rfl))
                  intro gb236 hg w18 hbox hb
                  have n0_ := Aside0.mk (blk_below (g := gb217) (o := .cells #[.int .i64 a0_0, .int .i64 a0_1, .int .i64 a0_2, .int .i64 a0_3, .int .i64 a0_4, .int .i64 a0_5, .int .u64 a0_6, .int .i64 a0_7] 26 (0, 0)) (by (with_reducible repeat (first | refine blk_drewN ?_ _ | refine blk_drew ?_ | refine blk_alloc ?_ _)); exact BK217.out) hb)
                  have n1_ := Aside0.mk (blk_below (g := gb218) (o := .cells #[.int .i64 a1_0, .int .i64 a1_1, .int .i64 a1_2, .int .i64 a1_3, .int .i64 a1_4, .int .i64 a1_5, .int .u64 a1_6, .int .i64 a1_7] 26 (0, 0)) (by (with_reducible repeat (first | refine blk_drewN ?_ _ | refine blk_drew ?_ | refine blk_alloc ?_ _)); exact BK218.out) hb)
                  have n2_ := Aside0.mk (blk_below (g := gb237) (o := .cells #[.int .i64 0, .int .i64 0, .int .i64 0, .int .i64 0, .int .i64 0, .int .i64 0, .int .u64 0, .int .i64 0] 26 (0, 0)) (by (with_reducible repeat (first | refine blk_drewN ?_ _ | refine blk_drew ?_ | refine blk_alloc ?_ _)); exact BK237.out) hb)
                  have n3_ := Aside0.mk (below_step (by repeat (first | (with_reducible first | exact HB.out | apply below_alloc | apply pw_below_drewN | apply below_drew1 | refine below_set ?_ GE217.out | refine below_set ?_ GE218.out | refine below_set ?_ GE237.out) | exact HB.out)) hb)
                  have n4_ := Aside0.mk (hbox)
                  have n5_ := Aside0.mk ((by rw [hg]; exact (below_size (by repeat (first | (with_reducible first | exact HB.out | apply below_alloc | apply pw_below_drewN | apply below_drew1 | refine below_set ?_ GE217.out | refine below_set ?_ GE218.out | refine below_set ?_ GE237.out) | exact HB.out))) : w.heap.size ≤ gb236))
                  have n6_ := Aside0.mk ((by rw [hg]; exact (below_size (by repeat (first | (with_reducible first | exact HB.out | apply below_alloc | apply pw_below_drewN | apply below_drew1 | refine below_set ?_ GE217.out | refine below_set ?_ GE218.out | refine below_set ?_ GE237.out) | exact HB.out))) : w.heap.size ≤ gb236))
                  have n7_ := Aside0.mk ((by rw [hg]; exact Nat.ne_of_lt (blk_lt (g := gb217) (o := .cells #[.int .i64 a0_0, .int .i64 a0_1, .int .i64 a0_2, .int .i64 a0_3, .int .i64 a0_4, .int .i64 a0_5, .int .u64 a0_6, .int .i64 a0_7] 26 (0, 0)) (by (with_reducible repeat (first | refine blk_drewN ?_ _ | refine blk_drew ?_ | refine blk_alloc ?_ _)); exact BK217.out)) : gb217 ≠ gb236))
                  have n8_ := Aside0.mk ((by rw [hg]; exact Nat.ne_of_gt (blk_lt (g := gb217) (o := .cells #[.int .i64 a0_0, .int .i64 a0_1, .int .i64 a0_2, .int .i64 a0_3, .int .i64 a0_4, .int .i64 a0_5, .int .u64 a0_6, .int .i64 a0_7] 26 (0, 0)) (by (with_reducible repeat (first | refine blk_drewN ?_ _ | refine blk_drew ?_ | refine blk_alloc ?_ _)); exact BK217.out)) : gb236 ≠ gb217))
                  have n9_ := Aside0.mk ((by rw [hg]; exact Nat.ne_of_lt (blk_lt (g := gb218) (o := .cells #[.int .i64 a1_0, .int .i64 a1_1, .int .i64 a1_2, .int .i64 a1_3, .int .i64 a1_4, .int .i64 a1_5, .int .u64 a1_6, .int .i64 a1_7] 26 (0, 0)) (by (with_reducible repeat (first | refine blk_drewN ?_ _ | refine blk_drew ?_ | refine blk_alloc ?_ _)); exact BK218.out)) : gb218 ≠ gb236))
                  have n10_ := Aside0.mk ((by rw [hg]; exact Nat.ne_of_gt (blk_lt (g := gb218) (o := .cells #[.int .i64 a1_0, .int .i64 a1_1, .int .i64 a1_2, .int .i64 a1_3, .int .i64 a1_4, .int .i64 a1_5, .int .u64 a1_6, .int .i64 a1_7] 26 (0, 0)) (by (with_reducible repeat (first | refine blk_drewN ?_ _ | refine blk_drew ?_ | refine blk_alloc ?_ _)); exact BK218.out)) : gb236 ≠ gb218))
                  have n11_ := Aside0.mk ((by rw [hg]; exact Nat.ne_of_lt (blk_lt (g := gb237) (o := .cells #[.int .i64 0, .int .i64 0, .int .i64 0, .int .i64 0, .int .i64 0, .int .i64 0, .int .u64 0, .int .i64 0] 26 (0, 0)) (by (with_reducible repeat (first | refine blk_drewN ?_ _ | refine blk_drew ?_ | refine blk_alloc ?_ _)); exact BK237.out)) : gb237 ≠ gb236))
                  have n12_ := Aside0.mk ((by rw [hg]; exact Nat.ne_of_gt (blk_lt (g := gb237) (o := .cells #[.int .i64 0, .int .i64 0, .int .i64 0, .int .i64 0, .int .i64 0, .int .i64 0, .int .u64 0, .int .i64 0] 26 (0, 0)) (by (with_reducible repeat (first | refine blk_drewN ?_ _ | refine blk_drew ?_ | refine blk_alloc ?_ _)); exact BK237.out)) : gb236 ≠ gb237))
                  clear BK217
                  clear BK218
                  clear BK237
                  clear HB
                  have BK217 := n0_
                  have BK218 := n1_
                  have BK237 := n2_
                  have HB := n3_
                  have BK236 := n4_
                  have GW236 := n5_
                  have GE236 := n6_
                  have NB217_236 := n7_
                  have NB236_217 := n8_
                  have NB218_236 := n9_
                  have NB236_218 := n10_
                  have NB237_236 := n11_
                  have NB236_237 := n12_
                  clear n0_ n1_ n2_ n3_ n4_ n5_ n6_ n7_ n8_ n9_ n10_ n11_ n12_
                  clear hb hbox hg
                  refine hK.out _ _ ⟨(blk_cell BK217.out 0).trans rfl, (blk_cell BK217.out 1).trans rfl, (blk_cell BK217.out 2).trans rfl, (blk_cell BK217.out 3).trans rfl, (blk_cell BK217.out 4).trans rfl, (blk_cell BK217.out 5).trans rfl, (blk_cell BK217.out 6).trans rfl, (blk_cell BK217.out 7).trans rfl, (blk_cell BK218.out 0).trans rfl, (blk_cell BK218.out 1).trans rfl, (blk_cell BK218.out 2).trans rfl, (blk_cell BK218.out 3).trans rfl, (blk_cell BK218.out 4).trans rfl, (blk_cell BK218.out 5).trans rfl, (blk_cell BK218.out 6).trans rfl, (blk_cell BK218.out 7).trans rfl⟩ (fun hHeld => ?_)
                  clear hK K
                  refine norm_ (a' := ?_) ?_ ?_
                  rotate_left
                  · show Act.put _ (some 5) _ = _
                    simp only [Act.put, List.setIfInBounds_toArray, List.set_cons_zero, List.set_cons_succ, i64_w, i32_w]
                    rfl
                  exact norm_ (by first | (simp only [putAll, Act.put, List.setIfInBounds_toArray, List.set_cons_zero, List.set_cons_succ]; done) | (simp only [putAll, Act.put, List.setIfInBounds_toArray, List.set_cons_zero, List.set_cons_succ]; rfl)) (hJ1_4_5 (gb236, gb237) _ ⟨hHeld, (by (with_reducible repeat (first | refine blk_drewN ?_ _ | refine blk_drew ?_ | refine blk_alloc ?_ _)); exact BK217.out), (by (with_reducible repeat (first | refine blk_drewN ?_ _ | refine blk_drew ?_ | refine blk_alloc ?_ _)); exact BK218.out), (by (with_reducible repeat (first | refine blk_drewN ?_ _ | refine blk_drew ?_ | refine blk_alloc ?_ _)); exact BK236.out), (by (with_reducible repeat (first | refine blk_drewN ?_ _ | refine blk_drew ?_ | refine blk_alloc ?_ _)); exact BK237.out), GW236.out, GE236.out, NB217_236.out, NB236_217.out, NB218_236.out, NB236_218.out, NB237_236.out, NB236_237.out, GW237.out, GE237.out, NB217_237.out, NB237_217.out, NB218_237.out, NB237_218.out, (by repeat (first | (with_reducible first | exact HB.out | apply below_alloc | apply pw_below_drewN | apply below_drew1 | refine below_set ?_ GE217.out | refine below_set ?_ GE218.out | refine below_set ?_ GE237.out | refine below_set ?_ GE236.out) | exact HB.out))⟩)
            · skip
              rintro gb236 w17 ⟨hS_, h0_, h1_, h2_, h3_, h4_, h5_, h6_, h7_, h8_, h9_⟩
              have n0_ : Aside0 (w17.heap[gb217]? = some (.cells #[.int .i64 a0_0, .int .i64 a0_1, .int .i64 a0_2, .int .i64 a0_3, .int .i64 a0_4, .int .i64 a0_5, .int .u64 a0_6, .int .i64 a0_7] 26 (0, 0))) := ⟨h0_⟩
              have n1_ : Aside0 (w17.heap[gb218]? = some (.cells #[.int .i64 a1_0, .int .i64 a1_1, .int .i64 a1_2, .int .i64 a1_3, .int .i64 a1_4, .int .i64 a1_5, .int .u64 a1_6, .int .i64 a1_7] 26 (0, 0))) := ⟨h1_⟩
              have n2_ : Aside0 (w17.heap[gb236]? = some (.cells #[.int .i64 0, .int .i64 0, .int .i64 0, .int .i64 0, .int .i64 0, .int .i64 0, .int .u64 0, .int .i64 0] 26 (0, 0))) := ⟨h2_⟩
              have n3_ : Aside0 (w.heap.size ≤ gb236) := ⟨h3_⟩
              have n4_ : Aside0 (w.heap.size ≤ gb236) := ⟨h4_⟩
              have n5_ : Aside0 (gb217 ≠ gb236) := ⟨h5_⟩
              have n6_ : Aside0 (gb236 ≠ gb217) := ⟨h6_⟩
              have n7_ : Aside0 (gb218 ≠ gb236) := ⟨h7_⟩
              have n8_ : Aside0 (gb236 ≠ gb218) := ⟨h8_⟩
              have n9_ : Aside0 (Below w.heap.size w w17) := ⟨h9_⟩
              clear BK217
              clear BK218
              clear HB
              clear h0_ h1_ h2_ h3_ h4_ h5_ h6_ h7_ h8_ h9_
              have BK217 := n0_
              have BK218 := n1_
              have BK236 := n2_
              have GW236 := n3_
              have GE236 := n4_
              have NB217_236 := n5_
              have NB236_217 := n6_
              have NB218_236 := n7_
              have NB236_218 := n8_
              have HB := n9_
              clear n0_ n1_ n2_ n3_ n4_ n5_ n6_ n7_ n8_ n9_
              have hHeld : w17.cell? ⟨gb217, 0, none⟩ = some (.int .i64 a0_0) ∧ w17.cell? ⟨gb217, 1, none⟩ = some (.int .i64 a0_1) ∧ w17.cell? ⟨gb217, 2, none⟩ = some (.int .i64 a0_2) ∧ w17.cell? ⟨gb217, 3, none⟩ = some (.int .i64 a0_3) ∧ w17.cell? ⟨gb217, 4, none⟩ = some (.int .i64 a0_4) ∧ w17.cell? ⟨gb217, 5, none⟩ = some (.int .i64 a0_5) ∧ w17.cell? ⟨gb217, 6, none⟩ = some (.int .u64 a0_6) ∧ w17.cell? ⟨gb217, 7, none⟩ = some (.int .i64 a0_7) ∧ w17.cell? ⟨gb218, 0, none⟩ = some (.int .i64 a1_0) ∧ w17.cell? ⟨gb218, 1, none⟩ = some (.int .i64 a1_1) ∧ w17.cell? ⟨gb218, 2, none⟩ = some (.int .i64 a1_2) ∧ w17.cell? ⟨gb218, 3, none⟩ = some (.int .i64 a1_3) ∧ w17.cell? ⟨gb218, 4, none⟩ = some (.int .i64 a1_4) ∧ w17.cell? ⟨gb218, 5, none⟩ = some (.int .i64 a1_5) ∧ w17.cell? ⟨gb218, 6, none⟩ = some (.int .u64 a1_6) ∧ w17.cell? ⟨gb218, 7, none⟩ = some (.int .i64 a1_7) := hS_
              refine norm_ (a' := ?_) ?_ ?_
              rotate_left
              · simp only [putAll, Act.put, List.setIfInBounds_toArray, List.set_cons_zero, List.set_cons_succ]
                rfl
              refine two_ (i := 3) (j := 5) (Ni := some 16) (Nj := some 6) #[true, true, true, true, true, false, false, false] #[true, true, true, false, true, true, false, false] rfl rfl rfl rfl (two_of HT_.out (by kernel_rfl)) (by decide) (by decide) (fun K hK => ?_) (fun K hK => ?_)
              · skip
                refine goes_ Try.func9 (by kernel_rfl) rfl #[.agg #[.int .i64 a1_0, .int .i64 a1_1, .int .i64 a1_2, .int .i64 a1_3, .int .i64 a1_4, .int .i64 a1_5, .int .u64 a1_6, .int .i64 a1_7]] (by rfl) rfl rfl (by (try simp only [List.map_toArray, List.map_cons, List.map_nil]); first | done | rfl | (simp only [List.length_drop, List.length_take]; rfl)) ?_
                with_reducible refine (tautochronelaw20_Make.calls k a1_0 a1_1 a1_2 a1_3 a1_4 a1_5 a1_6 a1_7 t228 t229 t230 t231 t232 t233 t234 t235 _ A6.out).mono ?_
                rintro e w18 ⟨rfl, hb⟩
                refine ⟨_, rfl, ?_⟩
                have n0_ := Aside0.mk (blk_below (g := gb217) (o := .cells #[.int .i64 a0_0, .int .i64 a0_1, .int .i64 a0_2, .int .i64 a0_3, .int .i64 a0_4, .int .i64 a0_5, .int .u64 a0_6, .int .i64 a0_7] 26 (0, 0)) (by (with_reducible repeat (first | refine blk_drewN ?_ _ | refine blk_drew ?_ | refine blk_alloc ?_ _)); exact BK217.out) hb)
                have n1_ := Aside0.mk (blk_below (g := gb218) (o := .cells #[.int .i64 a1_0, .int .i64 a1_1, .int .i64 a1_2, .int .i64 a1_3, .int .i64 a1_4, .int .i64 a1_5, .int .u64 a1_6, .int .i64 a1_7] 26 (0, 0)) (by (with_reducible repeat (first | refine blk_drewN ?_ _ | refine blk_drew ?_ | refine blk_alloc ?_ _)); exact BK218.out) hb)
                have n2_ := Aside0.mk (blk_below (g := gb236) (o := .cells #[.int .i64 0, .int .i64 0, .int .i64 0, .int .i64 0, .int .i64 0, .int .i64 0, .int .u64 0, .int .i64 0] 26 (0, 0)) (by (with_reducible repeat (first | refine blk_drewN ?_ _ | refine blk_drew ?_ | refine blk_alloc ?_ _)); exact BK236.out) hb)
                have n3_ := Aside0.mk (below_step (by repeat (first | (with_reducible first | exact HB.out | apply below_alloc | apply pw_below_drewN | apply below_drew1 | refine below_set ?_ GE217.out | refine below_set ?_ GE218.out | refine below_set ?_ GE236.out) | exact HB.out)) hb)
                clear BK217
                clear BK218
                clear BK236
                clear HB
                have BK217 := n0_
                have BK218 := n1_
                have BK236 := n2_
                have HB := n3_
                clear n0_ n1_ n2_ n3_
                (try clear hb)
                (try clear hb2)
                (try clear hk)
                (try clear hi)
                refine hK.out _ _ ⟨(blk_cell BK217.out 0).trans rfl, (blk_cell BK217.out 1).trans rfl, (blk_cell BK217.out 2).trans rfl, (blk_cell BK217.out 3).trans rfl, (blk_cell BK217.out 4).trans rfl, (blk_cell BK217.out 5).trans rfl, (blk_cell BK217.out 6).trans rfl, (blk_cell BK217.out 7).trans rfl, (blk_cell BK218.out 0).trans rfl, (blk_cell BK218.out 1).trans rfl, (blk_cell BK218.out 2).trans rfl, (blk_cell BK218.out 3).trans rfl, (blk_cell BK218.out 4).trans rfl, (blk_cell BK218.out 5).trans rfl, (blk_cell BK218.out 6).trans rfl, (blk_cell BK218.out 7).trans rfl⟩ (fun hHeld => ?_)
                clear hK K
                refine norm_ (a' := ?_) ?_ ?_
                rotate_left
                · show Act.put _ (some 16) _ = _
                  simp only [Act.put, List.setIfInBounds_toArray, List.set_cons_zero, List.set_cons_succ, i64_w, i32_w]
                  rfl
                exact norm_ (by first | (simp only [putAll, Act.put, List.setIfInBounds_toArray, List.set_cons_zero, List.set_cons_succ]; done) | (simp only [putAll, Act.put, List.setIfInBounds_toArray, List.set_cons_zero, List.set_cons_succ]; rfl)) (hJ1_3_4 (gb236) _ ⟨hHeld, (by (with_reducible repeat (first | refine blk_drewN ?_ _ | refine blk_drew ?_ | refine blk_alloc ?_ _)); exact BK217.out), (by (with_reducible repeat (first | refine blk_drewN ?_ _ | refine blk_drew ?_ | refine blk_alloc ?_ _)); exact BK218.out), (by (with_reducible repeat (first | refine blk_drewN ?_ _ | refine blk_drew ?_ | refine blk_alloc ?_ _)); exact BK236.out), GW236.out, GE236.out, NB217_236.out, NB236_217.out, NB218_236.out, NB236_218.out, (by repeat (first | (with_reducible first | exact HB.out | apply below_alloc | apply pw_below_drewN | apply below_drew1 | refine below_set ?_ GE217.out | refine below_set ?_ GE218.out | refine below_set ?_ GE236.out) | exact HB.out))⟩)
              · skip
                refine box_step ?hg (N := 6) ?hd (cs := #[.int .i64 0, .int .i64 0, .int .i64 0, .int .i64 0, .int .i64 0, .int .i64 0, .int .u64 0, .int .i64 0]) (t := 26) ?hr ?_; (case hd => rfl); (case hg => rfl); (case hr => first | (go_simp; done) | (go_simp; rfl))
                intro gb237 hg w18 hbox hb
                have n0_ := Aside0.mk (blk_below (g := gb217) (o := .cells #[.int .i64 a0_0, .int .i64 a0_1, .int .i64 a0_2, .int .i64 a0_3, .int .i64 a0_4, .int .i64 a0_5, .int .u64 a0_6, .int .i64 a0_7] 26 (0, 0)) (by (with_reducible repeat (first | refine blk_drewN ?_ _ | refine blk_drew ?_ | refine blk_alloc ?_ _)); exact BK217.out) hb)
                have n1_ := Aside0.mk (blk_below (g := gb218) (o := .cells #[.int .i64 a1_0, .int .i64 a1_1, .int .i64 a1_2, .int .i64 a1_3, .int .i64 a1_4, .int .i64 a1_5, .int .u64 a1_6, .int .i64 a1_7] 26 (0, 0)) (by (with_reducible repeat (first | refine blk_drewN ?_ _ | refine blk_drew ?_ | refine blk_alloc ?_ _)); exact BK218.out) hb)
                have n2_ := Aside0.mk (blk_below (g := gb236) (o := .cells #[.int .i64 0, .int .i64 0, .int .i64 0, .int .i64 0, .int .i64 0, .int .i64 0, .int .u64 0, .int .i64 0] 26 (0, 0)) (by (with_reducible repeat (first | refine blk_drewN ?_ _ | refine blk_drew ?_ | refine blk_alloc ?_ _)); exact BK236.out) hb)
                have n3_ := Aside0.mk (below_step (by repeat (first | (with_reducible first | exact HB.out | apply below_alloc | apply pw_below_drewN | apply below_drew1 | refine below_set ?_ GE217.out | refine below_set ?_ GE218.out | refine below_set ?_ GE236.out) | exact HB.out)) hb)
                have n4_ := Aside0.mk (hbox)
                have n5_ := Aside0.mk ((by rw [hg]; exact (below_size (by repeat (first | (with_reducible first | exact HB.out | apply below_alloc | apply pw_below_drewN | apply below_drew1 | refine below_set ?_ GE217.out | refine below_set ?_ GE218.out | refine below_set ?_ GE236.out) | exact HB.out))) : w.heap.size ≤ gb237))
                have n6_ := Aside0.mk ((by rw [hg]; exact (below_size (by repeat (first | (with_reducible first | exact HB.out | apply below_alloc | apply pw_below_drewN | apply below_drew1 | refine below_set ?_ GE217.out | refine below_set ?_ GE218.out | refine below_set ?_ GE236.out) | exact HB.out))) : w.heap.size ≤ gb237))
                have n7_ := Aside0.mk ((by rw [hg]; exact Nat.ne_of_lt (blk_lt (g := gb217) (o := .cells #[.int .i64 a0_0, .int .i64 a0_1, .int .i64 a0_2, .int .i64 a0_3, .int .i64 a0_4, .int .i64 a0_5, .int .u64 a0_6, .int .i64 a0_7] 26 (0, 0)) (by (with_reducible repeat (first | refine blk_drewN ?_ _ | refine blk_drew ?_ | refine blk_alloc ?_ _)); exact BK217.out)) : gb217 ≠ gb237))
                have n8_ := Aside0.mk ((by rw [hg]; exact Nat.ne_of_gt (blk_lt (g := gb217) (o := .cells #[.int .i64 a0_0, .int .i64 a0_1, .int .i64 a0_2, .int .i64 a0_3, .int .i64 a0_4, .int .i64 a0_5, .int .u64 a0_6, .int .i64 a0_7] 26 (0, 0)) (by (with_reducible repeat (first | refine blk_drewN ?_ _ | refine blk_drew ?_ | refine blk_alloc ?_ _)); exact BK217.out)) : gb237 ≠ gb217))
                have n9_ := Aside0.mk ((by rw [hg]; exact Nat.ne_of_lt (blk_lt (g := gb218) (o := .cells #[.int .i64 a1_0, .int .i64 a1_1, .int .i64 a1_2, .int .i64 a1_3, .int .i64 a1_4, .int .i64 a1_5, .int .u64 a1_6, .int .i64 a1_7] 26 (0, 0)) (by (with_reducible repeat (first | refine blk_drewN ?_ _ | refine blk_drew ?_ | refine blk_alloc ?_ _)); exact BK218.out)) : gb218 ≠ gb237))
                have n10_ := Aside0.mk ((by rw [hg]; exact Nat.ne_of_gt (blk_lt (g := gb218) (o := .cells #[.int .i64 a1_0, .int .i64 a1_1, .int .i64 a1_2, .int .i64 a1_3, .int .i64 a1_4, .int .i64 a1_5, .int .u64 a1_6, .int .i64 a1_7] 26 (0, 0)) (by (with_reducible repeat (first | refine blk_drewN ?_ _ | refine blk_drew ?_ | refine blk_alloc ?_ _)); exact BK218.out)) : gb237 ≠ gb218))
                have n11_ := Aside0.mk ((by rw [hg]; exact Nat.ne_of_lt (blk_lt (g := gb236) (o := .cells #[.int .i64 0, .int .i64 0, .int .i64 0, .int .i64 0, .int .i64 0, .int .i64 0, .int .u64 0, .int .i64 0] 26 (0, 0)) (by (with_reducible repeat (first | refine blk_drewN ?_ _ | refine blk_drew ?_ | refine blk_alloc ?_ _)); exact BK236.out)) : gb236 ≠ gb237))
                have n12_ := Aside0.mk ((by rw [hg]; exact Nat.ne_of_gt (blk_lt (g := gb236) (o := .cells #[.int .i64 0, .int .i64 0, .int .i64 0, .int .i64 0, .int .i64 0, .int .i64 0, .int .u64 0, .int .i64 0] 26 (0, 0)) (by (with_reducible repeat (first | refine blk_drewN ?_ _ | refine blk_drew ?_ | refine blk_alloc ?_ _)); exact BK236.out)) : gb237 ≠ gb236))
                clear BK217
                clear BK218
                clear BK236
                clear HB
                have BK217 := n0_
                have BK218 := n1_
                have BK236 := n2_
                have HB := n3_
                have BK237 := n4_
                have GW237 := n5_
                have GE237 := n6_
                have NB217_237 := n7_
                have NB237_217 := n8_
                have NB218_237 := n9_
                have NB237_218 := n10_
                have NB236_237 := n11_
                have NB237_236 := n12_
                clear n0_ n1_ n2_ n3_ n4_ n5_ n6_ n7_ n8_ n9_ n10_ n11_ n12_
                clear hb hbox hg
                refine hK.out _ _ ⟨(blk_cell BK217.out 0).trans rfl, (blk_cell BK217.out 1).trans rfl, (blk_cell BK217.out 2).trans rfl, (blk_cell BK217.out 3).trans rfl, (blk_cell BK217.out 4).trans rfl, (blk_cell BK217.out 5).trans rfl, (blk_cell BK217.out 6).trans rfl, (blk_cell BK217.out 7).trans rfl, (blk_cell BK218.out 0).trans rfl, (blk_cell BK218.out 1).trans rfl, (blk_cell BK218.out 2).trans rfl, (blk_cell BK218.out 3).trans rfl, (blk_cell BK218.out 4).trans rfl, (blk_cell BK218.out 5).trans rfl, (blk_cell BK218.out 6).trans rfl, (blk_cell BK218.out 7).trans rfl⟩ (fun hHeld => ?_)
                clear hK K
                refine norm_ (a' := ?_) ?_ ?_
                rotate_left
                · show Act.put _ (some 6) _ = _
                  simp only [Act.put, List.setIfInBounds_toArray, List.set_cons_zero, List.set_cons_succ, i64_w, i32_w]
                  rfl
                exact norm_ (by first | (simp only [putAll, Act.put, List.setIfInBounds_toArray, List.set_cons_zero, List.set_cons_succ]; done) | (simp only [putAll, Act.put, List.setIfInBounds_toArray, List.set_cons_zero, List.set_cons_succ]; rfl)) (hJ1_4_5 (gb236, gb237) _ ⟨hHeld, (by (with_reducible repeat (first | refine blk_drewN ?_ _ | refine blk_drew ?_ | refine blk_alloc ?_ _)); exact BK217.out), (by (with_reducible repeat (first | refine blk_drewN ?_ _ | refine blk_drew ?_ | refine blk_alloc ?_ _)); exact BK218.out), (by (with_reducible repeat (first | refine blk_drewN ?_ _ | refine blk_drew ?_ | refine blk_alloc ?_ _)); exact BK236.out), (by (with_reducible repeat (first | refine blk_drewN ?_ _ | refine blk_drew ?_ | refine blk_alloc ?_ _)); exact BK237.out), GW236.out, GE236.out, NB217_236.out, NB236_217.out, NB218_236.out, NB236_218.out, NB237_236.out, NB236_237.out, GW237.out, GE237.out, NB217_237.out, NB237_217.out, NB218_237.out, NB237_218.out, (by repeat (first | (with_reducible first | exact HB.out | apply below_alloc | apply pw_below_drewN | apply below_drew1 | refine below_set ?_ GE217.out | refine below_set ?_ GE218.out | refine below_set ?_ GE236.out | refine below_set ?_ GE237.out) | exact HB.out))⟩)
          · skip
            rintro _ w17 ⟨hS_, h0_, h1_, h2_⟩
            have n0_ : Aside0 (w17.heap[gb217]? = some (.cells #[.int .i64 a0_0, .int .i64 a0_1, .int .i64 a0_2, .int .i64 a0_3, .int .i64 a0_4, .int .i64 a0_5, .int .u64 a0_6, .int .i64 a0_7] 26 (0, 0))) := ⟨h0_⟩
            have n1_ : Aside0 (w17.heap[gb218]? = some (.cells #[.int .i64 a1_0, .int .i64 a1_1, .int .i64 a1_2, .int .i64 a1_3, .int .i64 a1_4, .int .i64 a1_5, .int .u64 a1_6, .int .i64 a1_7] 26 (0, 0))) := ⟨h1_⟩
            have n2_ : Aside0 (Below w.heap.size w w17) := ⟨h2_⟩
            clear BK217
            clear BK218
            clear HB
            clear h0_ h1_ h2_
            have BK217 := n0_
            have BK218 := n1_
            have HB := n2_
            clear n0_ n1_ n2_
            have hHeld : w17.cell? ⟨gb217, 0, none⟩ = some (.int .i64 a0_0) ∧ w17.cell? ⟨gb217, 1, none⟩ = some (.int .i64 a0_1) ∧ w17.cell? ⟨gb217, 2, none⟩ = some (.int .i64 a0_2) ∧ w17.cell? ⟨gb217, 3, none⟩ = some (.int .i64 a0_3) ∧ w17.cell? ⟨gb217, 4, none⟩ = some (.int .i64 a0_4) ∧ w17.cell? ⟨gb217, 5, none⟩ = some (.int .i64 a0_5) ∧ w17.cell? ⟨gb217, 6, none⟩ = some (.int .u64 a0_6) ∧ w17.cell? ⟨gb217, 7, none⟩ = some (.int .i64 a0_7) ∧ w17.cell? ⟨gb218, 0, none⟩ = some (.int .i64 a1_0) ∧ w17.cell? ⟨gb218, 1, none⟩ = some (.int .i64 a1_1) ∧ w17.cell? ⟨gb218, 2, none⟩ = some (.int .i64 a1_2) ∧ w17.cell? ⟨gb218, 3, none⟩ = some (.int .i64 a1_3) ∧ w17.cell? ⟨gb218, 4, none⟩ = some (.int .i64 a1_4) ∧ w17.cell? ⟨gb218, 5, none⟩ = some (.int .i64 a1_5) ∧ w17.cell? ⟨gb218, 6, none⟩ = some (.int .u64 a1_6) ∧ w17.cell? ⟨gb218, 7, none⟩ = some (.int .i64 a1_7) := hS_
            refine norm_ (a' := ?_) ?_ ?_
            rotate_left
            · simp only [putAll, Act.put, List.setIfInBounds_toArray, List.set_cons_zero, List.set_cons_succ]
              rfl
            refine two_ (i := 4) (j := 5) (Ni := some 5) (Nj := some 6) #[true, true, true, true, true, false, false, false] #[true, true, true, true, false, true, false, false] rfl rfl rfl rfl (two_of HT_.out (by kernel_rfl)) (by decide) (by decide) (fun K hK => ?_) (fun K hK => ?_)
            · skip
              refine box_step ?hg (N := 5) ?hd (cs := #[.int .i64 0, .int .i64 0, .int .i64 0, .int .i64 0, .int .i64 0, .int .i64 0, .int .u64 0, .int .i64 0]) (t := 26) ?hr ?_; (case hd => rfl); (case hg => rfl); (case hr => first | (go_simp; done) | (go_simp; rfl))
              intro gb236 hg w18 hbox hb
              have n0_ := Aside0.mk (blk_below (g := gb217) (o := .cells #[.int .i64 a0_0, .int .i64 a0_1, .int .i64 a0_2, .int .i64 a0_3, .int .i64 a0_4, .int .i64 a0_5, .int .u64 a0_6, .int .i64 a0_7] 26 (0, 0)) (by (with_reducible repeat (first | refine blk_drewN ?_ _ | refine blk_drew ?_ | refine blk_alloc ?_ _)); exact BK217.out) hb)
              have n1_ := Aside0.mk (blk_below (g := gb218) (o := .cells #[.int .i64 a1_0, .int .i64 a1_1, .int .i64 a1_2, .int .i64 a1_3, .int .i64 a1_4, .int .i64 a1_5, .int .u64 a1_6, .int .i64 a1_7] 26 (0, 0)) (by (with_reducible repeat (first | refine blk_drewN ?_ _ | refine blk_drew ?_ | refine blk_alloc ?_ _)); exact BK218.out) hb)
              have n2_ := Aside0.mk (below_step (by repeat (first | (with_reducible first | exact HB.out | apply below_alloc | apply pw_below_drewN | apply below_drew1 | refine below_set ?_ GE217.out | refine below_set ?_ GE218.out) | exact HB.out)) hb)
              have n3_ := Aside0.mk (hbox)
              have n4_ := Aside0.mk ((by rw [hg]; exact (below_size (by repeat (first | (with_reducible first | exact HB.out | apply below_alloc | apply pw_below_drewN | apply below_drew1 | refine below_set ?_ GE217.out | refine below_set ?_ GE218.out) | exact HB.out))) : w.heap.size ≤ gb236))
              have n5_ := Aside0.mk ((by rw [hg]; exact (below_size (by repeat (first | (with_reducible first | exact HB.out | apply below_alloc | apply pw_below_drewN | apply below_drew1 | refine below_set ?_ GE217.out | refine below_set ?_ GE218.out) | exact HB.out))) : w.heap.size ≤ gb236))
              have n6_ := Aside0.mk ((by rw [hg]; exact Nat.ne_of_lt (blk_lt (g := gb217) (o := .cells #[.int .i64 a0_0, .int .i64 a0_1, .int .i64 a0_2, .int .i64 a0_3, .int .i64 a0_4, .int .i64 a0_5, .int .u64 a0_6, .int .i64 a0_7] 26 (0, 0)) (by (with_reducible repeat (first | refine blk_drewN ?_ _ | refine blk_drew ?_ | refine blk_alloc ?_ _)); exact BK217.out)) : gb217 ≠ gb236))
              have n7_ := Aside0.mk ((by rw [hg]; exact Nat.ne_of_gt (blk_lt (g := gb217) (o := .cells #[.int .i64 a0_0, .int .i64 a0_1, .int .i64 a0_2, .int .i64 a0_3, .int .i64 a0_4, .int .i64 a0_5, .int .u64 a0_6, .int .i64 a0_7] 26 (0, 0)) (by (with_reducible repeat (first | refine blk_drewN ?_ _ | refine blk_drew ?_ | refine blk_alloc ?_ _)); exact BK217.out)) : gb236 ≠ gb217))
              have n8_ := Aside0.mk ((by rw [hg]; exact Nat.ne_of_lt (blk_lt (g := gb218) (o := .cells #[.int .i64 a1_0, .int .i64 a1_1, .int .i64 a1_2, .int .i64 a1_3, .int .i64 a1_4, .int .i64 a1_5, .int .u64 a1_6, .int .i64 a1_7] 26 (0, 0)) (by (with_reducible repeat (first | refine blk_drewN ?_ _ | refine blk_drew ?_ | refine blk_alloc ?_ _)); exact BK218.out)) : gb218 ≠ gb236))
              have n9_ := Aside0.mk ((by rw [hg]; exact Nat.ne_of_gt (blk_lt (g := gb218) (o := .cells #[.int .i64 a1_0, .int .i64 a1_1, .int .i64 a1_2, .int .i64 a1_3, .int .i64 a1_4, .int .i64 a1_5, .int .u64 a1_6, .int .i64 a1_7] 26 (0, 0)) (by (with_reducible repeat (first | refine blk_drewN ?_ _ | refine blk_drew ?_ | refine blk_alloc ?_ _)); exact BK218.out)) : gb236 ≠ gb218))
              clear BK217
              clear BK218
              clear HB
              have BK217 := n0_
              have BK218 := n1_
              have HB := n2_
              have BK236 := n3_
              have GW236 := n4_
              have GE236 := n5_
              have NB217_236 := n6_
              have NB236_217 := n7_
              have NB218_236 := n8_
              have NB236_218 := n9_
              clear n0_ n1_ n2_ n3_ n4_ n5_ n6_ n7_ n8_ n9_
              clear hb hbox hg
              refine hK.out _ _ ⟨(blk_cell BK217.out 0).trans rfl, (blk_cell BK217.out 1).trans rfl, (blk_cell BK217.out 2).trans rfl, (blk_cell BK217.out 3).trans rfl, (blk_cell BK217.out 4).trans rfl, (blk_cell BK217.out 5).trans rfl, (blk_cell BK217.out 6).trans rfl, (blk_cell BK217.out 7).trans rfl, (blk_cell BK218.out 0).trans rfl, (blk_cell BK218.out 1).trans rfl, (blk_cell BK218.out 2).trans rfl, (blk_cell BK218.out 3).trans rfl, (blk_cell BK218.out 4).trans rfl, (blk_cell BK218.out 5).trans rfl, (blk_cell BK218.out 6).trans rfl, (blk_cell BK218.out 7).trans rfl⟩ (fun hHeld => ?_)
              clear hK K
              refine norm_ (a' := ?_) ?_ ?_
              rotate_left
              · show Act.put _ (some 5) _ = _
                simp only [Act.put, List.setIfInBounds_toArray, List.set_cons_zero, List.set_cons_succ, i64_w, i32_w]
                rfl
              exact norm_ (by first | (simp only [putAll, Act.put, List.setIfInBounds_toArray, List.set_cons_zero, List.set_cons_succ]; done) | (simp only [putAll, Act.put, List.setIfInBounds_toArray, List.set_cons_zero, List.set_cons_succ]; rfl)) (hJ1_3_4 (gb236) _ ⟨hHeld, (by (with_reducible repeat (first | refine blk_drewN ?_ _ | refine blk_drew ?_ | refine blk_alloc ?_ _)); exact BK217.out), (by (with_reducible repeat (first | refine blk_drewN ?_ _ | refine blk_drew ?_ | refine blk_alloc ?_ _)); exact BK218.out), (by (with_reducible repeat (first | refine blk_drewN ?_ _ | refine blk_drew ?_ | refine blk_alloc ?_ _)); exact BK236.out), GW236.out, GE236.out, NB217_236.out, NB236_217.out, NB218_236.out, NB236_218.out, (by repeat (first | (with_reducible first | exact HB.out | apply below_alloc | apply pw_below_drewN | apply below_drew1 | refine below_set ?_ GE217.out | refine below_set ?_ GE218.out | refine below_set ?_ GE236.out) | exact HB.out))⟩)
            · skip
              refine box_step ?hg (N := 6) ?hd (cs := #[.int .i64 0, .int .i64 0, .int .i64 0, .int .i64 0, .int .i64 0, .int .i64 0, .int .u64 0, .int .i64 0]) (t := 26) ?hr ?_; (case hd => rfl); (case hg => rfl); (case hr => first | (go_simp; done) | (go_simp; rfl))
              intro gb237 hg w18 hbox hb
              have n0_ := Aside0.mk (blk_below (g := gb217) (o := .cells #[.int .i64 a0_0, .int .i64 a0_1, .int .i64 a0_2, .int .i64 a0_3, .int .i64 a0_4, .int .i64 a0_5, .int .u64 a0_6, .int .i64 a0_7] 26 (0, 0)) (by (with_reducible repeat (first | refine blk_drewN ?_ _ | refine blk_drew ?_ | refine blk_alloc ?_ _)); exact BK217.out) hb)
              have n1_ := Aside0.mk (blk_below (g := gb218) (o := .cells #[.int .i64 a1_0, .int .i64 a1_1, .int .i64 a1_2, .int .i64 a1_3, .int .i64 a1_4, .int .i64 a1_5, .int .u64 a1_6, .int .i64 a1_7] 26 (0, 0)) (by (with_reducible repeat (first | refine blk_drewN ?_ _ | refine blk_drew ?_ | refine blk_alloc ?_ _)); exact BK218.out) hb)
              have n2_ := Aside0.mk (below_step (by repeat (first | (with_reducible first | exact HB.out | apply below_alloc | apply pw_below_drewN | apply below_drew1 | refine below_set ?_ GE217.out | refine below_set ?_ GE218.out) | exact HB.out)) hb)
              have n3_ := Aside0.mk (hbox)
              have n4_ := Aside0.mk ((by rw [hg]; exact (below_size (by repeat (first | (with_reducible first | exact HB.out | apply below_alloc | apply pw_below_drewN | apply below_drew1 | refine below_set ?_ GE217.out | refine below_set ?_ GE218.out) | exact HB.out))) : w.heap.size ≤ gb237))
              have n5_ := Aside0.mk ((by rw [hg]; exact (below_size (by repeat (first | (with_reducible first | exact HB.out | apply below_alloc | apply pw_below_drewN | apply below_drew1 | refine below_set ?_ GE217.out | refine below_set ?_ GE218.out) | exact HB.out))) : w.heap.size ≤ gb237))
              have n6_ := Aside0.mk ((by rw [hg]; exact Nat.ne_of_lt (blk_lt (g := gb217) (o := .cells #[.int .i64 a0_0, .int .i64 a0_1, .int .i64 a0_2, .int .i64 a0_3, .int .i64 a0_4, .int .i64 a0_5, .int .u64 a0_6, .int .i64 a0_7] 26 (0, 0)) (by (with_reducible repeat (first | refine blk_drewN ?_ _ | refine blk_drew ?_ | refine blk_alloc ?_ _)); exact BK217.out)) : gb217 ≠ gb237))
              have n7_ := Aside0.mk ((by rw [hg]; exact Nat.ne_of_gt (blk_lt (g := gb217) (o := .cells #[.int .i64 a0_0, .int .i64 a0_1, .int .i64 a0_2, .int .i64 a0_3, .int .i64 a0_4, .int .i64 a0_5, .int .u64 a0_6, .int .i64 a0_7] 26 (0, 0)) (by (with_reducible repeat (first | refine blk_drewN ?_ _ | refine blk_drew ?_ | refine blk_alloc ?_ _)); exact BK217.out)) : gb237 ≠ gb217))
              have n8_ := Aside0.mk ((by rw [hg]; exact Nat.ne_of_lt (blk_lt (g := gb218) (o := .cells #[.int .i64 a1_0, .int .i64 a1_1, .int .i64 a1_2, .int .i64 a1_3, .int .i64 a1_4, .int .i64 a1_5, .int .u64 a1_6, .int .i64 a1_7] 26 (0, 0)) (by (with_reducible repeat (first | refine blk_drewN ?_ _ | refine blk_drew ?_ | refine blk_alloc ?_ _)); exact BK218.out)) : gb218 ≠ gb237))
              have n9_ := Aside0.mk ((by rw [hg]; exact Nat.ne_of_gt (blk_lt (g := gb218) (o := .cells #[.int .i64 a1_0, .int .i64 a1_1, .int .i64 a1_2, .int .i64 a1_3, .int .i64 a1_4, .int .i64 a1_5, .int .u64 a1_6, .int .i64 a1_7] 26 (0, 0)) (by (with_reducible repeat (first | refine blk_drewN ?_ _ | refine blk_drew ?_ | refine blk_alloc ?_ _)); exact BK218.out)) : gb237 ≠ gb218))
              clear BK217
              clear BK218
              clear HB
              have BK217 := n0_
              have BK218 := n1_
              have HB := n2_
              have BK237 := n3_
              have GW237 := n4_
              have GE237 := n5_
              have NB217_237 := n6_
              have NB237_217 := n7_
              have NB218_237 := n8_
              have NB237_218 := n9_
              clear n0_ n1_ n2_ n3_ n4_ n5_ n6_ n7_ n8_ n9_
              clear hb hbox hg
              refine hK.out _ _ ⟨(blk_cell BK217.out 0).trans rfl, (blk_cell BK217.out 1).trans rfl, (blk_cell BK217.out 2).trans rfl, (blk_cell BK217.out 3).trans rfl, (blk_cell BK217.out 4).trans rfl, (blk_cell BK217.out 5).trans rfl, (blk_cell BK217.out 6).trans rfl, (blk_cell BK217.out 7).trans rfl, (blk_cell BK218.out 0).trans rfl, (blk_cell BK218.out 1).trans rfl, (blk_cell BK218.out 2).trans rfl, (blk_cell BK218.out 3).trans rfl, (blk_cell BK218.out 4).trans rfl, (blk_cell BK218.out 5).trans rfl, (blk_cell BK218.out 6).trans rfl, (blk_cell BK218.out 7).trans rfl⟩ (fun hHeld => ?_)
              clear hK K
              refine norm_ (a' := ?_) ?_ ?_
              rotate_left
              · show Act.put _ (some 6) _ = _
                simp only [Act.put, List.setIfInBounds_toArray, List.set_cons_zero, List.set_cons_succ, i64_w, i32_w]
                rfl
              exact norm_ (by first | (simp only [putAll, Act.put, List.setIfInBounds_toArray, List.set_cons_zero, List.set_cons_succ]; done) | (simp only [putAll, Act.put, List.setIfInBounds_toArray, List.set_cons_zero, List.set_cons_succ]; rfl)) (hJ1_3_5 (gb237) _ ⟨hHeld, (by (with_reducible repeat (first | refine blk_drewN ?_ _ | refine blk_drew ?_ | refine blk_alloc ?_ _)); exact BK217.out), (by (with_reducible repeat (first | refine blk_drewN ?_ _ | refine blk_drew ?_ | refine blk_alloc ?_ _)); exact BK218.out), (by (with_reducible repeat (first | refine blk_drewN ?_ _ | refine blk_drew ?_ | refine blk_alloc ?_ _)); exact BK237.out), GW237.out, GE237.out, NB217_237.out, NB237_217.out, NB218_237.out, NB237_218.out, (by repeat (first | (with_reducible first | exact HB.out | apply below_alloc | apply pw_below_drewN | apply below_drew1 | refine below_set ?_ GE217.out | refine below_set ?_ GE218.out | refine below_set ?_ GE237.out) | exact HB.out))⟩)
        · skip
          rintro ⟨gb236, gb237⟩ w18 ⟨hS_, h0_, h1_, h2_, h3_, h4_, h5_, h6_, h7_, h8_, h9_, h10_, h11_, h12_, h13_, h14_, h15_, h16_, h17_, h18_⟩
          have n0_ : Aside0 (w18.heap[gb217]? = some (.cells #[.int .i64 a0_0, .int .i64 a0_1, .int .i64 a0_2, .int .i64 a0_3, .int .i64 a0_4, .int .i64 a0_5, .int .u64 a0_6, .int .i64 a0_7] 26 (0, 0))) := ⟨h0_⟩
          have n1_ : Aside0 (w18.heap[gb218]? = some (.cells #[.int .i64 a1_0, .int .i64 a1_1, .int .i64 a1_2, .int .i64 a1_3, .int .i64 a1_4, .int .i64 a1_5, .int .u64 a1_6, .int .i64 a1_7] 26 (0, 0))) := ⟨h1_⟩
          have n2_ : Aside0 (w18.heap[gb236]? = some (.cells #[.int .i64 0, .int .i64 0, .int .i64 0, .int .i64 0, .int .i64 0, .int .i64 0, .int .u64 0, .int .i64 0] 26 (0, 0))) := ⟨h2_⟩
          have n3_ : Aside0 (w18.heap[gb237]? = some (.cells #[.int .i64 0, .int .i64 0, .int .i64 0, .int .i64 0, .int .i64 0, .int .i64 0, .int .u64 0, .int .i64 0] 26 (0, 0))) := ⟨h3_⟩
          have n4_ : Aside0 (w.heap.size ≤ gb236) := ⟨h4_⟩
          have n5_ : Aside0 (w.heap.size ≤ gb236) := ⟨h5_⟩
          have n6_ : Aside0 (gb217 ≠ gb236) := ⟨h6_⟩
          have n7_ : Aside0 (gb236 ≠ gb217) := ⟨h7_⟩
          have n8_ : Aside0 (gb218 ≠ gb236) := ⟨h8_⟩
          have n9_ : Aside0 (gb236 ≠ gb218) := ⟨h9_⟩
          have n10_ : Aside0 (gb237 ≠ gb236) := ⟨h10_⟩
          have n11_ : Aside0 (gb236 ≠ gb237) := ⟨h11_⟩
          have n12_ : Aside0 (w.heap.size ≤ gb237) := ⟨h12_⟩
          have n13_ : Aside0 (w.heap.size ≤ gb237) := ⟨h13_⟩
          have n14_ : Aside0 (gb217 ≠ gb237) := ⟨h14_⟩
          have n15_ : Aside0 (gb237 ≠ gb217) := ⟨h15_⟩
          have n16_ : Aside0 (gb218 ≠ gb237) := ⟨h16_⟩
          have n17_ : Aside0 (gb237 ≠ gb218) := ⟨h17_⟩
          have n18_ : Aside0 (Below w.heap.size w w18) := ⟨h18_⟩
          clear BK217
          clear BK218
          clear HB
          clear h0_ h1_ h2_ h3_ h4_ h5_ h6_ h7_ h8_ h9_ h10_ h11_ h12_ h13_ h14_ h15_ h16_ h17_ h18_
          have BK217 := n0_
          have BK218 := n1_
          have BK236 := n2_
          have BK237 := n3_
          have GW236 := n4_
          have GE236 := n5_
          have NB217_236 := n6_
          have NB236_217 := n7_
          have NB218_236 := n8_
          have NB236_218 := n9_
          have NB237_236 := n10_
          have NB236_237 := n11_
          have GW237 := n12_
          have GE237 := n13_
          have NB217_237 := n14_
          have NB237_217 := n15_
          have NB218_237 := n16_
          have NB237_218 := n17_
          have HB := n18_
          clear n0_ n1_ n2_ n3_ n4_ n5_ n6_ n7_ n8_ n9_ n10_ n11_ n12_ n13_ n14_ n15_ n16_ n17_ n18_
          have hHeld : w18.cell? ⟨gb217, 0, none⟩ = some (.int .i64 a0_0) ∧ w18.cell? ⟨gb217, 1, none⟩ = some (.int .i64 a0_1) ∧ w18.cell? ⟨gb217, 2, none⟩ = some (.int .i64 a0_2) ∧ w18.cell? ⟨gb217, 3, none⟩ = some (.int .i64 a0_3) ∧ w18.cell? ⟨gb217, 4, none⟩ = some (.int .i64 a0_4) ∧ w18.cell? ⟨gb217, 5, none⟩ = some (.int .i64 a0_5) ∧ w18.cell? ⟨gb217, 6, none⟩ = some (.int .u64 a0_6) ∧ w18.cell? ⟨gb217, 7, none⟩ = some (.int .i64 a0_7) ∧ w18.cell? ⟨gb218, 0, none⟩ = some (.int .i64 a1_0) ∧ w18.cell? ⟨gb218, 1, none⟩ = some (.int .i64 a1_1) ∧ w18.cell? ⟨gb218, 2, none⟩ = some (.int .i64 a1_2) ∧ w18.cell? ⟨gb218, 3, none⟩ = some (.int .i64 a1_3) ∧ w18.cell? ⟨gb218, 4, none⟩ = some (.int .i64 a1_4) ∧ w18.cell? ⟨gb218, 5, none⟩ = some (.int .i64 a1_5) ∧ w18.cell? ⟨gb218, 6, none⟩ = some (.int .u64 a1_6) ∧ w18.cell? ⟨gb218, 7, none⟩ = some (.int .i64 a1_7) := hS_
          refine norm_ (a' := ?_) ?_ ?_
          rotate_left
          · simp only [putAll, Act.put, List.setIfInBounds_toArray, List.set_cons_zero, List.set_cons_succ]
            rfl
          refine one_ (i := 3) (N := some 16) #[true, true, true, true, true, true, false, false] rfl rfl (one_of HT_.out (by kernel_rfl)) (by decide) (fun K hK => ?_)
          refine goes_ Try.func9 (by kernel_rfl) rfl #[.agg #[.int .i64 a1_0, .int .i64 a1_1, .int .i64 a1_2, .int .i64 a1_3, .int .i64 a1_4, .int .i64 a1_5, .int .u64 a1_6, .int .i64 a1_7]] (by rfl) rfl rfl (by (try simp only [List.map_toArray, List.map_cons, List.map_nil]); first | done | rfl | (simp only [List.length_drop, List.length_take]; rfl)) ?_
          with_reducible refine (tautochronelaw20_Make.calls k a1_0 a1_1 a1_2 a1_3 a1_4 a1_5 a1_6 a1_7 t228 t229 t230 t231 t232 t233 t234 t235 _ A6.out).mono ?_
          rintro e w19 ⟨rfl, hb⟩
          refine ⟨_, rfl, ?_⟩
          have n0_ := Aside0.mk (blk_below (g := gb217) (o := .cells #[.int .i64 a0_0, .int .i64 a0_1, .int .i64 a0_2, .int .i64 a0_3, .int .i64 a0_4, .int .i64 a0_5, .int .u64 a0_6, .int .i64 a0_7] 26 (0, 0)) (by (with_reducible repeat (first | refine blk_drewN ?_ _ | refine blk_drew ?_ | refine blk_alloc ?_ _)); exact BK217.out) hb)
          have n1_ := Aside0.mk (blk_below (g := gb218) (o := .cells #[.int .i64 a1_0, .int .i64 a1_1, .int .i64 a1_2, .int .i64 a1_3, .int .i64 a1_4, .int .i64 a1_5, .int .u64 a1_6, .int .i64 a1_7] 26 (0, 0)) (by (with_reducible repeat (first | refine blk_drewN ?_ _ | refine blk_drew ?_ | refine blk_alloc ?_ _)); exact BK218.out) hb)
          have n2_ := Aside0.mk (blk_below (g := gb236) (o := .cells #[.int .i64 0, .int .i64 0, .int .i64 0, .int .i64 0, .int .i64 0, .int .i64 0, .int .u64 0, .int .i64 0] 26 (0, 0)) (by (with_reducible repeat (first | refine blk_drewN ?_ _ | refine blk_drew ?_ | refine blk_alloc ?_ _)); exact BK236.out) hb)
          have n3_ := Aside0.mk (blk_below (g := gb237) (o := .cells #[.int .i64 0, .int .i64 0, .int .i64 0, .int .i64 0, .int .i64 0, .int .i64 0, .int .u64 0, .int .i64 0] 26 (0, 0)) (by (with_reducible repeat (first | refine blk_drewN ?_ _ | refine blk_drew ?_ | refine blk_alloc ?_ _)); exact BK237.out) hb)
          have n4_ := Aside0.mk (below_step (by repeat (first | (with_reducible first | exact HB.out | apply below_alloc | apply pw_below_drewN | apply below_drew1 | refine below_set ?_ GE217.out | refine below_set ?_ GE218.out | refine below_set ?_ GE236.out | refine below_set ?_ GE237.out) | exact HB.out)) hb)
          clear BK217
          clear BK218
          clear BK236
          clear BK237
          clear HB
          have BK217 := n0_
          have BK218 := n1_
          have BK236 := n2_
          have BK237 := n3_
          have HB := n4_
          clear n0_ n1_ n2_ n3_ n4_
          (try clear hb)
          (try clear hb2)
          (try clear hk)
          (try clear hi)
          refine hK.out _ _ ⟨(blk_cell BK217.out 0).trans rfl, (blk_cell BK217.out 1).trans rfl, (blk_cell BK217.out 2).trans rfl, (blk_cell BK217.out 3).trans rfl, (blk_cell BK217.out 4).trans rfl, (blk_cell BK217.out 5).trans rfl, (blk_cell BK217.out 6).trans rfl, (blk_cell BK217.out 7).trans rfl, (blk_cell BK218.out 0).trans rfl, (blk_cell BK218.out 1).trans rfl, (blk_cell BK218.out 2).trans rfl, (blk_cell BK218.out 3).trans rfl, (blk_cell BK218.out 4).trans rfl, (blk_cell BK218.out 5).trans rfl, (blk_cell BK218.out 6).trans rfl, (blk_cell BK218.out 7).trans rfl⟩ (fun hHeld => ?_)
          clear hK K
          refine norm_ (a' := ?_) ?_ ?_
          rotate_left
          · show Act.put _ (some 16) _ = _
            simp only [Act.put, List.setIfInBounds_toArray, List.set_cons_zero, List.set_cons_succ, i64_w, i32_w]
            rfl
          exact norm_ (by first | (simp only [putAll, Act.put, List.setIfInBounds_toArray, List.set_cons_zero, List.set_cons_succ]; done) | (simp only [putAll, Act.put, List.setIfInBounds_toArray, List.set_cons_zero, List.set_cons_succ]; rfl)) (hJ1_3_4_5 (gb236, gb237) _ ⟨hHeld, (by (with_reducible repeat (first | refine blk_drewN ?_ _ | refine blk_drew ?_ | refine blk_alloc ?_ _)); exact BK217.out), (by (with_reducible repeat (first | refine blk_drewN ?_ _ | refine blk_drew ?_ | refine blk_alloc ?_ _)); exact BK218.out), (by (with_reducible repeat (first | refine blk_drewN ?_ _ | refine blk_drew ?_ | refine blk_alloc ?_ _)); exact BK236.out), (by (with_reducible repeat (first | refine blk_drewN ?_ _ | refine blk_drew ?_ | refine blk_alloc ?_ _)); exact BK237.out), GW236.out, GE236.out, NB217_236.out, NB236_217.out, NB218_236.out, NB236_218.out, NB237_236.out, NB236_237.out, GW237.out, GE237.out, NB217_237.out, NB237_217.out, NB218_237.out, NB237_218.out, (by repeat (first | (with_reducible first | exact HB.out | apply below_alloc | apply pw_below_drewN | apply below_drew1 | refine below_set ?_ GE217.out | refine below_set ?_ GE218.out | refine below_set ?_ GE236.out | refine below_set ?_ GE237.out) | exact HB.out))⟩)
      · skip
        rintro gb237 w18 ⟨hS_, h0_, h1_, h2_, h3_, h4_, h5_, h6_, h7_, h8_, h9_⟩
        have n0_ : Aside0 (w18.heap[gb217]? = some (.cells #[.int .i64 a0_0, .int .i64 a0_1, .int .i64 a0_2, .int .i64 a0_3, .int .i64 a0_4, .int .i64 a0_5, .int .u64 a0_6, .int .i64 a0_7] 26 (0, 0))) := ⟨h0_⟩
        have n1_ : Aside0 (w18.heap[gb218]? = some (.cells #[.int .i64 a1_0, .int .i64 a1_1, .int .i64 a1_2, .int .i64 a1_3, .int .i64 a1_4, .int .i64 a1_5, .int .u64 a1_6, .int .i64 a1_7] 26 (0, 0))) := ⟨h1_⟩
        have n2_ : Aside0 (w18.heap[gb237]? = some (.cells #[.int .i64 0, .int .i64 0, .int .i64 0, .int .i64 0, .int .i64 0, .int .i64 0, .int .u64 0, .int .i64 0] 26 (0, 0))) := ⟨h2_⟩
        have n3_ : Aside0 (w.heap.size ≤ gb237) := ⟨h3_⟩
        have n4_ : Aside0 (w.heap.size ≤ gb237) := ⟨h4_⟩
        have n5_ : Aside0 (gb217 ≠ gb237) := ⟨h5_⟩
        have n6_ : Aside0 (gb237 ≠ gb217) := ⟨h6_⟩
        have n7_ : Aside0 (gb218 ≠ gb237) := ⟨h7_⟩
        have n8_ : Aside0 (gb237 ≠ gb218) := ⟨h8_⟩
        have n9_ : Aside0 (Below w.heap.size w w18) := ⟨h9_⟩
        clear BK217
        clear BK218
        clear HB
        clear h0_ h1_ h2_ h3_ h4_ h5_ h6_ h7_ h8_ h9_
        have BK217 := n0_
        have BK218 := n1_
        have BK237 := n2_
        have GW237 := n3_
        have GE237 := n4_
        have NB217_237 := n5_
        have NB237_217 := n6_
        have NB218_237 := n7_
        have NB237_218 := n8_
        have HB := n9_
        clear n0_ n1_ n2_ n3_ n4_ n5_ n6_ n7_ n8_ n9_
        have hHeld : w18.cell? ⟨gb217, 0, none⟩ = some (.int .i64 a0_0) ∧ w18.cell? ⟨gb217, 1, none⟩ = some (.int .i64 a0_1) ∧ w18.cell? ⟨gb217, 2, none⟩ = some (.int .i64 a0_2) ∧ w18.cell? ⟨gb217, 3, none⟩ = some (.int .i64 a0_3) ∧ w18.cell? ⟨gb217, 4, none⟩ = some (.int .i64 a0_4) ∧ w18.cell? ⟨gb217, 5, none⟩ = some (.int .i64 a0_5) ∧ w18.cell? ⟨gb217, 6, none⟩ = some (.int .u64 a0_6) ∧ w18.cell? ⟨gb217, 7, none⟩ = some (.int .i64 a0_7) ∧ w18.cell? ⟨gb218, 0, none⟩ = some (.int .i64 a1_0) ∧ w18.cell? ⟨gb218, 1, none⟩ = some (.int .i64 a1_1) ∧ w18.cell? ⟨gb218, 2, none⟩ = some (.int .i64 a1_2) ∧ w18.cell? ⟨gb218, 3, none⟩ = some (.int .i64 a1_3) ∧ w18.cell? ⟨gb218, 4, none⟩ = some (.int .i64 a1_4) ∧ w18.cell? ⟨gb218, 5, none⟩ = some (.int .i64 a1_5) ∧ w18.cell? ⟨gb218, 6, none⟩ = some (.int .u64 a1_6) ∧ w18.cell? ⟨gb218, 7, none⟩ = some (.int .i64 a1_7) := hS_
        refine norm_ (a' := ?_) ?_ ?_
        rotate_left
        · simp only [putAll, Act.put, List.setIfInBounds_toArray, List.set_cons_zero, List.set_cons_succ]
          rfl
        refine one_ (i := 4) (N := some 5) #[true, true, true, true, true, true, false, false] rfl rfl (one_of HT_.out (by kernel_rfl)) (by decide) (fun K hK => ?_)
        refine box_step ?hg (N := 5) ?hd (cs := #[.int .i64 0, .int .i64 0, .int .i64 0, .int .i64 0, .int .i64 0, .int .i64 0, .int .u64 0, .int .i64 0]) (t := 26) ?hr ?_; (case hd => rfl); (case hg => rfl); (case hr => first | (go_simp; done) | (go_simp; rfl))
        intro gb236 hg w19 hbox hb
        have n0_ := Aside0.mk (blk_below (g := gb217) (o := .cells #[.int .i64 a0_0, .int .i64 a0_1, .int .i64 a0_2, .int .i64 a0_3, .int .i64 a0_4, .int .i64 a0_5, .int .u64 a0_6, .int .i64 a0_7] 26 (0, 0)) (by (with_reducible repeat (first | refine blk_drewN ?_ _ | refine blk_drew ?_ | refine blk_alloc ?_ _)); exact BK217.out) hb)
        have n1_ := Aside0.mk (blk_below (g := gb218) (o := .cells #[.int .i64 a1_0, .int .i64 a1_1, .int .i64 a1_2, .int .i64 a1_3, .int .i64 a1_4, .int .i64 a1_5, .int .u64 a1_6, .int .i64 a1_7] 26 (0, 0)) (by (with_reducible repeat (first | refine blk_drewN ?_ _ | refine blk_drew ?_ | refine blk_alloc ?_ _)); exact BK218.out) hb)
        have n2_ := Aside0.mk (blk_below (g := gb237) (o := .cells #[.int .i64 0, .int .i64 0, .int .i64 0, .int .i64 0, .int .i64 0, .int .i64 0, .int .u64 0, .int .i64 0] 26 (0, 0)) (by (with_reducible repeat (first | refine blk_drewN ?_ _ | refine blk_drew ?_ | refine blk_alloc ?_ _)); exact BK237.out) hb)
        have n3_ := Aside0.mk (below_step (by repeat (first | (with_reducible first | exact HB.out | apply below_alloc | apply pw_below_drewN | apply below_drew1 | refine below_set ?_ GE217.out | refine below_set ?_ GE218.out | refine below_set ?_ GE237.out) | exact HB.out)) hb)
        have n4_ := Aside0.mk (hbox)
        have n5_ := Aside0.mk ((by rw [hg]; exact (below_size (by repeat (first | (with_reducible first | exact HB.out | apply below_alloc | apply pw_below_drewN | apply below_drew1 | refine below_set ?_ GE217.out | refine below_set ?_ GE218.out | refine below_set ?_ GE237.out) | exact HB.out))) : w.heap.size ≤ gb236))
        have n6_ := Aside0.mk ((by rw [hg]; exact (below_size (by repeat (first | (with_reducible first | exact HB.out | apply below_alloc | apply pw_below_drewN | apply below_drew1 | refine below_set ?_ GE217.out | refine below_set ?_ GE218.out | refine below_set ?_ GE237.out) | exact HB.out))) : w.heap.size ≤ gb236))
        have n7_ := Aside0.mk ((by rw [hg]; exact Nat.ne_of_lt (blk_lt (g := gb217) (o := .cells #[.int .i64 a0_0, .int .i64 a0_1, .int .i64 a0_2, .int .i64 a0_3, .int .i64 a0_4, .int .i64 a0_5, .int .u64 a0_6, .int .i64 a0_7] 26 (0, 0)) (by (with_reducible repeat (first | refine blk_drewN ?_ _ | refine blk_drew ?_ | refine blk_alloc ?_ _)); exact BK217.out)) : gb217 ≠ gb236))
        have n8_ := Aside0.mk ((by rw [hg]; exact Nat.ne_of_gt (blk_lt (g := gb217) (o := .cells #[.int .i64 a0_0, .int .i64 a0_1, .int .i64 a0_2, .int .i64 a0_3, .int .i64 a0_4, .int .i64 a0_5, .int .u64 a0_6, .int .i64 a0_7] 26 (0, 0)) (by (with_reducible repeat (first | refine blk_drewN ?_ _ | refine blk_drew ?_ | refine blk_alloc ?_ _)); exact BK217.out)) : gb236 ≠ gb217))
        have n9_ := Aside0.mk ((by rw [hg]; exact Nat.ne_of_lt (blk_lt (g := gb218) (o := .cells #[.int .i64 a1_0, .int .i64 a1_1, .int .i64 a1_2, .int .i64 a1_3, .int .i64 a1_4, .int .i64 a1_5, .int .u64 a1_6, .int .i64 a1_7] 26 (0, 0)) (by (with_reducible repeat (first | refine blk_drewN ?_ _ | refine blk_drew ?_ | refine blk_alloc ?_ _)); exact BK218.out)) : gb218 ≠ gb236))
        have n10_ := Aside0.mk ((by rw [hg]; exact Nat.ne_of_gt (blk_lt (g := gb218) (o := .cells #[.int .i64 a1_0, .int .i64 a1_1, .int .i64 a1_2, .int .i64 a1_3, .int .i64 a1_4, .int .i64 a1_5, .int .u64 a1_6, .int .i64 a1_7] 26 (0, 0)) (by (with_reducible repeat (first | refine blk_drewN ?_ _ | refine blk_drew ?_ | refine blk_alloc ?_ _)); exact BK218.out)) : gb236 ≠ gb218))
        have n11_ := Aside0.mk ((by rw [hg]; exact Nat.ne_of_lt (blk_lt (g := gb237) (o := .cells #[.int .i64 0, .int .i64 0, .int .i64 0, .int .i64 0, .int .i64 0, .int .i64 0, .int .u64 0, .int .i64 0] 26 (0, 0)) (by (with_reducible repeat (first | refine blk_drewN ?_ _ | refine blk_drew ?_ | refine blk_alloc ?_ _)); exact BK237.out)) : gb237 ≠ gb236))
        have n12_ := Aside0.mk ((by rw [hg]; exact Nat.ne_of_gt (blk_lt (g := gb237) (o := .cells #[.int .i64 0, .int .i64 0, .int .i64 0, .int .i64 0, .int .i64 0, .int .i64 0, .int .u64 0, .int .i64 0] 26 (0, 0)) (by (with_reducible repeat (first | refine blk_drewN ?_ _ | refine blk_drew ?_ | refine blk_alloc ?_ _)); exact BK237.out)) : gb236 ≠ gb237))
        clear BK217
        clear BK218
        clear BK237
        clear HB
        have BK217 := n0_
        have BK218 := n1_
        have BK237 := n2_
        have HB := n3_
        have BK236 := n4_
        have GW236 := n5_
        have GE236 := n6_
        have NB217_236 := n7_
        have NB236_217 := n8_
        have NB218_236 := n9_
        have NB236_218 := n10_
        have NB237_236 := n11_
        have NB236_237 := n12_
        clear n0_ n1_ n2_ n3_ n4_ n5_ n6_ n7_ n8_ n9_ n10_ n11_ n12_
        clear hb hbox hg
        refine hK.out _ _ ⟨(blk_cell BK217.out 0).trans rfl, (blk_cell BK217.out 1).trans rfl, (blk_cell BK217.out 2).trans rfl, (blk_cell BK217.out 3).trans rfl, (blk_cell BK217.out 4).trans rfl, (blk_cell BK217.out 5).trans rfl, (blk_cell BK217.out 6).trans rfl, (blk_cell BK217.out 7).trans rfl, (blk_cell BK218.out 0).trans rfl, (blk_cell BK218.out 1).trans rfl, (blk_cell BK218.out 2).trans rfl, (blk_cell BK218.out 3).trans rfl, (blk_cell BK218.out 4).trans rfl, (blk_cell BK218.out 5).trans rfl, (blk_cell BK218.out 6).trans rfl, (blk_cell BK218.out 7).trans rfl⟩ (fun hHeld => ?_)
        clear hK K
        refine norm_ (a' := ?_) ?_ ?_
        rotate_left
        · show Act.put _ (some 5) _ = _
          simp only [Act.put, List.setIfInBounds_toArray, List.set_cons_zero, List.set_cons_succ, i64_w, i32_w]
          rfl
        exact norm_ (by first | (simp only [putAll, Act.put, List.setIfInBounds_toArray, List.set_cons_zero, List.set_cons_succ]; done) | (simp only [putAll, Act.put, List.setIfInBounds_toArray, List.set_cons_zero, List.set_cons_succ]; rfl)) (hJ1_3_4_5 (gb236, gb237) _ ⟨hHeld, (by (with_reducible repeat (first | refine blk_drewN ?_ _ | refine blk_drew ?_ | refine blk_alloc ?_ _)); exact BK217.out), (by (with_reducible repeat (first | refine blk_drewN ?_ _ | refine blk_drew ?_ | refine blk_alloc ?_ _)); exact BK218.out), (by (with_reducible repeat (first | refine blk_drewN ?_ _ | refine blk_drew ?_ | refine blk_alloc ?_ _)); exact BK236.out), (by (with_reducible repeat (first | refine blk_drewN ?_ _ | refine blk_drew ?_ | refine blk_alloc ?_ _)); exact BK237.out), GW236.out, GE236.out, NB217_236.out, NB236_217.out, NB218_236.out, NB236_218.out, NB237_236.out, NB236_237.out, GW237.out, GE237.out, NB217_237.out, NB237_217.out, NB218_237.out, NB237_218.out, (by repeat (first | (with_reducible first | exact HB.out | apply below_alloc | apply pw_below_drewN | apply below_drew1 | refine below_set ?_ GE217.out | refine below_set ?_ GE218.out | refine below_set ?_ GE237.out | refine below_set ?_ GE236.out) | exact HB.out))⟩)
    · skip
      rintro gb236 w18 ⟨hS_, h0_, h1_, h2_, h3_, h4_, h5_, h6_, h7_, h8_, h9_⟩
      have n0_ : Aside0 (w18.heap[gb217]? = some (.cells #[.int .i64 a0_0, .int .i64 a0_1, .int .i64 a0_2, .int .i64 a0_3, .int .i64 a0_4, .int .i64 a0_5, .int .u64 a0_6, .int .i64 a0_7] 26 (0, 0))) := ⟨h0_⟩
      have n1_ : Aside0 (w18.heap[gb218]? = some (.cells #[.int .i64 a1_0, .int .i64 a1_1, .int .i64 a1_2, .int .i64 a1_3, .int .i64 a1_4, .int .i64 a1_5, .int .u64 a1_6, .int .i64 a1_7] 26 (0, 0))) := ⟨h1_⟩
      have n2_ : Aside0 (w18.heap[gb236]? = some (.cells #[.int .i64 0, .int .i64 0, .int .i64 0, .int .i64 0, .int .i64 0, .int .i64 0, .int .u64 0, .int .i64 0] 26 (0, 0))) := ⟨h2_⟩
      have n3_ : Aside0 (w.heap.size ≤ gb236) := ⟨h3_⟩
      have n4_ : Aside0 (w.heap.size ≤ gb236) := ⟨h4_⟩
      have n5_ : Aside0 (gb217 ≠ gb236) := ⟨h5_⟩
      have n6_ : Aside0 (gb236 ≠ gb217) := ⟨h6_⟩
      have n7_ : Aside0 (gb218 ≠ gb236) := ⟨h7_⟩
      have n8_ : Aside0 (gb236 ≠ gb218) := ⟨h8_⟩
      have n9_ : Aside0 (Below w.heap.size w w18) := ⟨h9_⟩
      clear BK217
      clear BK218
      clear HB
      clear h0_ h1_ h2_ h3_ h4_ h5_ h6_ h7_ h8_ h9_
      have BK217 := n0_
      have BK218 := n1_
      have BK236 := n2_
      have GW236 := n3_
      have GE236 := n4_
      have NB217_236 := n5_
      have NB236_217 := n6_
      have NB218_236 := n7_
      have NB236_218 := n8_
      have HB := n9_
      clear n0_ n1_ n2_ n3_ n4_ n5_ n6_ n7_ n8_ n9_
      have hHeld : w18.cell? ⟨gb217, 0, none⟩ = some (.int .i64 a0_0) ∧ w18.cell? ⟨gb217, 1, none⟩ = some (.int .i64 a0_1) ∧ w18.cell? ⟨gb217, 2, none⟩ = some (.int .i64 a0_2) ∧ w18.cell? ⟨gb217, 3, none⟩ = some (.int .i64 a0_3) ∧ w18.cell? ⟨gb217, 4, none⟩ = some (.int .i64 a0_4) ∧ w18.cell? ⟨gb217, 5, none⟩ = some (.int .i64 a0_5) ∧ w18.cell? ⟨gb217, 6, none⟩ = some (.int .u64 a0_6) ∧ w18.cell? ⟨gb217, 7, none⟩ = some (.int .i64 a0_7) ∧ w18.cell? ⟨gb218, 0, none⟩ = some (.int .i64 a1_0) ∧ w18.cell? ⟨gb218, 1, none⟩ = some (.int .i64 a1_1) ∧ w18.cell? ⟨gb218, 2, none⟩ = some (.int .i64 a1_2) ∧ w18.cell? ⟨gb218, 3, none⟩ = some (.int .i64 a1_3) ∧ w18.cell? ⟨gb218, 4, none⟩ = some (.int .i64 a1_4) ∧ w18.cell? ⟨gb218, 5, none⟩ = some (.int .i64 a1_5) ∧ w18.cell? ⟨gb218, 6, none⟩ = some (.int .u64 a1_6) ∧ w18.cell? ⟨gb218, 7, none⟩ = some (.int .i64 a1_7) := hS_
      refine norm_ (a' := ?_) ?_ ?_
      rotate_left
      · simp only [putAll, Act.put, List.setIfInBounds_toArray, List.set_cons_zero, List.set_cons_succ]
        rfl
      refine one_ (i := 5) (N := some 6) #[true, true, true, true, true, true, false, false] rfl rfl (one_of HT_.out (by kernel_rfl)) (by decide) (fun K hK => ?_)
      refine box_step ?hg (N := 6) ?hd (cs := #[.int .i64 0, .int .i64 0, .int .i64 0, .int .i64 0, .int .i64 0, .int .i64 0, .int .u64 0, .int .i64 0]) (t := 26) ?hr ?_; (case hd => rfl); (case hg => rfl); (case hr => first | (go_simp; done) | (go_simp; rfl))
      intro gb237 hg w19 hbox hb
      have n0_ := Aside0.mk (blk_below (g := gb217) (o := .cells #[.int .i64 a0_0, .int .i64 a0_1, .int .i64 a0_2, .int .i64 a0_3, .int .i64 a0_4, .int .i64 a0_5, .int .u64 a0_6, .int .i64 a0_7] 26 (0, 0)) (by (with_reducible repeat (first | refine blk_drewN ?_ _ | refine blk_drew ?_ | refine blk_alloc ?_ _)); exact BK217.out) hb)
      have n1_ := Aside0.mk (blk_below (g := gb218) (o := .cells #[.int .i64 a1_0, .int .i64 a1_1, .int .i64 a1_2, .int .i64 a1_3, .int .i64 a1_4, .int .i64 a1_5, .int .u64 a1_6, .int .i64 a1_7] 26 (0, 0)) (by (with_reducible repeat (first | refine blk_drewN ?_ _ | refine blk_drew ?_ | refine blk_alloc ?_ _)); exact BK218.out) hb)
      have n2_ := Aside0.mk (blk_below (g := gb236) (o := .cells #[.int .i64 0, .int .i64 0, .int .i64 0, .int .i64 0, .int .i64 0, .int .i64 0, .int .u64 0, .int .i64 0] 26 (0, 0)) (by (with_reducible repeat (first | refine blk_drewN ?_ _ | refine blk_drew ?_ | refine blk_alloc ?_ _)); exact BK236.out) hb)
      have n3_ := Aside0.mk (below_step (by repeat (first | (with_reducible first | exact HB.out | apply below_alloc | apply pw_below_drewN | apply below_drew1 | refine below_set ?_ GE217.out | refine below_set ?_ GE218.out | refine below_set ?_ GE236.out) | exact HB.out)) hb)
      have n4_ := Aside0.mk (hbox)
      have n5_ := Aside0.mk ((by rw [hg]; exact (below_size (by repeat (first | (with_reducible first | exact HB.out | apply below_alloc | apply pw_below_drewN | apply below_drew1 | refine below_set ?_ GE217.out | refine below_set ?_ GE218.out | refine below_set ?_ GE236.out) | exact HB.out))) : w.heap.size ≤ gb237))
      have n6_ := Aside0.mk ((by rw [hg]; exact (below_size (by repeat (first | (with_reducible first | exact HB.out | apply below_alloc | apply pw_below_drewN | apply below_drew1 | refine below_set ?_ GE217.out | refine below_set ?_ GE218.out | refine below_set ?_ GE236.out) | exact HB.out))) : w.heap.size ≤ gb237))
      have n7_ := Aside0.mk ((by rw [hg]; exact Nat.ne_of_lt (blk_lt (g := gb217) (o := .cells #[.int .i64 a0_0, .int .i64 a0_1, .int .i64 a0_2, .int .i64 a0_3, .int .i64 a0_4, .int .i64 a0_5, .int .u64 a0_6, .int .i64 a0_7] 26 (0, 0)) (by (with_reducible repeat (first | refine blk_drewN ?_ _ | refine blk_drew ?_ | refine blk_alloc ?_ _)); exact BK217.out)) : gb217 ≠ gb237))
      have n8_ := Aside0.mk ((by rw [hg]; exact Nat.ne_of_gt (blk_lt (g := gb217) (o := .cells #[.int .i64 a0_0, .int .i64 a0_1, .int .i64 a0_2, .int .i64 a0_3, .int .i64 a0_4, .int .i64 a0_5, .int .u64 a0_6, .int .i64 a0_7] 26 (0, 0)) (by (with_reducible repeat (first | refine blk_drewN ?_ _ | refine blk_drew ?_ | refine blk_alloc ?_ _)); exact BK217.out)) : gb237 ≠ gb217))
      have n9_ := Aside0.mk ((by rw [hg]; exact Nat.ne_of_lt (blk_lt (g := gb218) (o := .cells #[.int .i64 a1_0, .int .i64 a1_1, .int .i64 a1_2, .int .i64 a1_3, .int .i64 a1_4, .int .i64 a1_5, .int .u64 a1_6, .int .i64 a1_7] 26 (0, 0)) (by (with_reducible repeat (first | refine blk_drewN ?_ _ | refine blk_drew ?_ | refine blk_alloc ?_ _)); exact BK218.out)) : gb218 ≠ gb237))
      have n10_ := Aside0.mk ((by rw [hg]; exact Nat.ne_of_gt (blk_lt (g := gb218) (o := .cells #[.int .i64 a1_0, .int .i64 a1_1, .int .i64 a1_2, .int .i64 a1_3, .int .i64 a1_4, .int .i64 a1_5, .int .u64 a1_6, .int .i64 a1_7] 26 (0, 0)) (by (with_reducible repeat (first | refine blk_drewN ?_ _ | refine blk_drew ?_ | refine blk_alloc ?_ _)); exact BK218.out)) : gb237 ≠ gb218))
      have n11_ := Aside0.mk ((by rw [hg]; exact Nat.ne_of_lt (blk_lt (g := gb236) (o := .cells #[.int .i64 0, .int .i64 0, .int .i64 0, .int .i64 0, .int .i64 0, .int .i64 0, .int .u64 0, .int .i64 0] 26 (0, 0)) (by (with_reducible repeat (first | refine blk_drewN ?_ _ | refine blk_drew ?_ | refine blk_alloc ?_ _)); exact BK236.out)) : gb236 ≠ gb237))
      have n12_ := Aside0.mk ((by rw [hg]; exact Nat.ne_of_gt (blk_lt (g := gb236) (o := .cells #[.int .i64 0, .int .i64 0, .int .i64 0, .int .i64 0, .int .i64 0, .int .i64 0, .int .u64 0, .int .i64 0] 26 (0, 0)) (by (with_reducible repeat (first | refine blk_drewN ?_ _ | refine blk_drew ?_ | refine blk_alloc ?_ _)); exact BK236.out)) : gb237 ≠ gb236))
      clear BK217
      clear BK218
      clear BK236
      clear HB
      have BK217 := n0_
      have BK218 := n1_
      have BK236 := n2_
      have HB := n3_
      have BK237 := n4_
      have GW237 := n5_
      have GE237 := n6_
      have NB217_237 := n7_
      have NB237_217 := n8_
      have NB218_237 := n9_
      have NB237_218 := n10_
      have NB236_237 := n11_
      have NB237_236 := n12_
      clear n0_ n1_ n2_ n3_ n4_ n5_ n6_ n7_ n8_ n9_ n10_ n11_ n12_
      clear hb hbox hg
      refine hK.out _ _ ⟨(blk_cell BK217.out 0).trans rfl, (blk_cell BK217.out 1).trans rfl, (blk_cell BK217.out 2).trans rfl, (blk_cell BK217.out 3).trans rfl, (blk_cell BK217.out 4).trans rfl, (blk_cell BK217.out 5).trans rfl, (blk_cell BK217.out 6).trans rfl, (blk_cell BK217.out 7).trans rfl, (blk_cell BK218.out 0).trans rfl, (blk_cell BK218.out 1).trans rfl, (blk_cell BK218.out 2).trans rfl, (blk_cell BK218.out 3).trans rfl, (blk_cell BK218.out 4).trans rfl, (blk_cell BK218.out 5).trans rfl, (blk_cell BK218.out 6).trans rfl, (blk_cell BK218.out 7).trans rfl⟩ (fun hHeld => ?_)
      clear hK K
      refine norm_ (a' := ?_) ?_ ?_
      rotate_left
      · show Act.put _ (some 6) _ = _
        simp only [Act.put, List.setIfInBounds_toArray, List.set_cons_zero, List.set_cons_succ, i64_w, i32_w]
        rfl
      exact norm_ (by first | (simp only [putAll, Act.put, List.setIfInBounds_toArray, List.set_cons_zero, List.set_cons_succ]; done) | (simp only [putAll, Act.put, List.setIfInBounds_toArray, List.set_cons_zero, List.set_cons_succ]; rfl)) (hJ1_3_4_5 (gb236, gb237) _ ⟨hHeld, (by (with_reducible repeat (first | refine blk_drewN ?_ _ | refine blk_drew ?_ | refine blk_alloc ?_ _)); exact BK217.out), (by (with_reducible repeat (first | refine blk_drewN ?_ _ | refine blk_drew ?_ | refine blk_alloc ?_ _)); exact BK218.out), (by (with_reducible repeat (first | refine blk_drewN ?_ _ | refine blk_drew ?_ | refine blk_alloc ?_ _)); exact BK236.out), (by (with_reducible repeat (first | refine blk_drewN ?_ _ | refine blk_drew ?_ | refine blk_alloc ?_ _)); exact BK237.out), GW236.out, GE236.out, NB217_236.out, NB236_217.out, NB218_236.out, NB236_218.out, NB237_236.out, NB236_237.out, GW237.out, GE237.out, NB217_237.out, NB237_217.out, NB218_237.out, NB237_218.out, (by repeat (first | (with_reducible first | exact HB.out | apply below_alloc | apply pw_below_drewN | apply below_drew1 | refine below_set ?_ GE217.out | refine below_set ?_ GE218.out | refine below_set ?_ GE236.out | refine below_set ?_ GE237.out) | exact HB.out))⟩)
  rintro ⟨gb236, gb237⟩ w19 ⟨hS_, h0_, h1_, h2_, h3_, h4_, h5_, h6_, h7_, h8_, h9_, h10_, h11_, h12_, h13_, h14_, h15_, h16_, h17_, h18_⟩
  have n0_ : Aside0 (w19.heap[gb217]? = some (.cells #[.int .i64 a0_0, .int .i64 a0_1, .int .i64 a0_2, .int .i64 a0_3, .int .i64 a0_4, .int .i64 a0_5, .int .u64 a0_6, .int .i64 a0_7] 26 (0, 0))) := ⟨h0_⟩
  have n1_ : Aside0 (w19.heap[gb218]? = some (.cells #[.int .i64 a1_0, .int .i64 a1_1, .int .i64 a1_2, .int .i64 a1_3, .int .i64 a1_4, .int .i64 a1_5, .int .u64 a1_6, .int .i64 a1_7] 26 (0, 0))) := ⟨h1_⟩
  have n2_ : Aside0 (w19.heap[gb236]? = some (.cells #[.int .i64 0, .int .i64 0, .int .i64 0, .int .i64 0, .int .i64 0, .int .i64 0, .int .u64 0, .int .i64 0] 26 (0, 0))) := ⟨h2_⟩
  have n3_ : Aside0 (w19.heap[gb237]? = some (.cells #[.int .i64 0, .int .i64 0, .int .i64 0, .int .i64 0, .int .i64 0, .int .i64 0, .int .u64 0, .int .i64 0] 26 (0, 0))) := ⟨h3_⟩
  have n4_ : Aside0 (w.heap.size ≤ gb236) := ⟨h4_⟩
  have n5_ : Aside0 (w.heap.size ≤ gb236) := ⟨h5_⟩
  have n6_ : Aside0 (gb217 ≠ gb236) := ⟨h6_⟩
  have n7_ : Aside0 (gb236 ≠ gb217) := ⟨h7_⟩
  have n8_ : Aside0 (gb218 ≠ gb236) := ⟨h8_⟩
  have n9_ : Aside0 (gb236 ≠ gb218) := ⟨h9_⟩
  have n10_ : Aside0 (gb237 ≠ gb236) := ⟨h10_⟩
  have n11_ : Aside0 (gb236 ≠ gb237) := ⟨h11_⟩
  have n12_ : Aside0 (w.heap.size ≤ gb237) := ⟨h12_⟩
  have n13_ : Aside0 (w.heap.size ≤ gb237) := ⟨h13_⟩
  have n14_ : Aside0 (gb217 ≠ gb237) := ⟨h14_⟩
  have n15_ : Aside0 (gb237 ≠ gb217) := ⟨h15_⟩
  have n16_ : Aside0 (gb218 ≠ gb237) := ⟨h16_⟩
  have n17_ : Aside0 (gb237 ≠ gb218) := ⟨h17_⟩
  have n18_ : Aside0 (Below w.heap.size w w19) := ⟨h18_⟩
  clear BK217
  clear BK218
  clear HB
  clear h0_ h1_ h2_ h3_ h4_ h5_ h6_ h7_ h8_ h9_ h10_ h11_ h12_ h13_ h14_ h15_ h16_ h17_ h18_
  have BK217 := n0_
  have BK218 := n1_
  have BK236 := n2_
  have BK237 := n3_
  have GW236 := n4_
  have GE236 := n5_
  have NB217_236 := n6_
  have NB236_217 := n7_
  have NB218_236 := n8_
  have NB236_218 := n9_
  have NB237_236 := n10_
  have NB236_237 := n11_
  have GW237 := n12_
  have GE237 := n13_
  have NB217_237 := n14_
  have NB237_217 := n15_
  have NB218_237 := n16_
  have NB237_218 := n17_
  have HB := n18_
  clear n0_ n1_ n2_ n3_ n4_ n5_ n6_ n7_ n8_ n9_ n10_ n11_ n12_ n13_ n14_ n15_ n16_ n17_ n18_
  have hHeld : w19.cell? ⟨gb217, 0, none⟩ = some (.int .i64 a0_0) ∧ w19.cell? ⟨gb217, 1, none⟩ = some (.int .i64 a0_1) ∧ w19.cell? ⟨gb217, 2, none⟩ = some (.int .i64 a0_2) ∧ w19.cell? ⟨gb217, 3, none⟩ = some (.int .i64 a0_3) ∧ w19.cell? ⟨gb217, 4, none⟩ = some (.int .i64 a0_4) ∧ w19.cell? ⟨gb217, 5, none⟩ = some (.int .i64 a0_5) ∧ w19.cell? ⟨gb217, 6, none⟩ = some (.int .u64 a0_6) ∧ w19.cell? ⟨gb217, 7, none⟩ = some (.int .i64 a0_7) ∧ w19.cell? ⟨gb218, 0, none⟩ = some (.int .i64 a1_0) ∧ w19.cell? ⟨gb218, 1, none⟩ = some (.int .i64 a1_1) ∧ w19.cell? ⟨gb218, 2, none⟩ = some (.int .i64 a1_2) ∧ w19.cell? ⟨gb218, 3, none⟩ = some (.int .i64 a1_3) ∧ w19.cell? ⟨gb218, 4, none⟩ = some (.int .i64 a1_4) ∧ w19.cell? ⟨gb218, 5, none⟩ = some (.int .i64 a1_5) ∧ w19.cell? ⟨gb218, 6, none⟩ = some (.int .u64 a1_6) ∧ w19.cell? ⟨gb218, 7, none⟩ = some (.int .i64 a1_7) := hS_
  refine norm_ (a' := ?_) ?_ ?_
  rotate_left
  · simp only [putAll, Act.put, List.setIfInBounds_toArray, List.set_cons_zero, List.set_cons_succ]
    rfl
  refine one_ (i := 6) (N := none) #[true, true, true, true, true, true, true, false] rfl rfl (one_of HT_.out (by kernel_rfl)) (by decide) (fun K hK => ?_)
  have hs20 : w19.cell? ⟨gb236, 0, none⟩ = some (.int .i64 0) := (blk_cell BK236.out 0).trans rfl
  have hfs20 := blk_frozen BK236.out 0
  have hns20_0 := NB217_236.out
  have hns20_1 := NB218_236.out
  have hns20_3 := NB237_236.out
  have hms20_0 := NB236_217.out
  have hms20_1 := NB236_218.out
  have hms20_3 := NB236_237.out
  have hs21 : w19.cell? ⟨gb236, 1, none⟩ = some (.int .i64 0) := (blk_cell BK236.out 1).trans rfl
  have hfs21 := blk_frozen BK236.out 1
  have hns21_0 := NB217_236.out
  have hns21_1 := NB218_236.out
  have hns21_3 := NB237_236.out
  have hms21_0 := NB236_217.out
  have hms21_1 := NB236_218.out
  have hms21_3 := NB236_237.out
  have hs22 : w19.cell? ⟨gb236, 2, none⟩ = some (.int .i64 0) := (blk_cell BK236.out 2).trans rfl
  have hfs22 := blk_frozen BK236.out 2
  have hns22_0 := NB217_236.out
  have hns22_1 := NB218_236.out
  have hns22_3 := NB237_236.out
  have hms22_0 := NB236_217.out
  have hms22_1 := NB236_218.out
  have hms22_3 := NB236_237.out
  have hs23 : w19.cell? ⟨gb236, 3, none⟩ = some (.int .i64 0) := (blk_cell BK236.out 3).trans rfl
  have hfs23 := blk_frozen BK236.out 3
  have hns23_0 := NB217_236.out
  have hns23_1 := NB218_236.out
  have hns23_3 := NB237_236.out
  have hms23_0 := NB236_217.out
  have hms23_1 := NB236_218.out
  have hms23_3 := NB236_237.out
  have hs24 : w19.cell? ⟨gb236, 4, none⟩ = some (.int .i64 0) := (blk_cell BK236.out 4).trans rfl
  have hfs24 := blk_frozen BK236.out 4
  have hns24_0 := NB217_236.out
  have hns24_1 := NB218_236.out
  have hns24_3 := NB237_236.out
  have hms24_0 := NB236_217.out
  have hms24_1 := NB236_218.out
  have hms24_3 := NB236_237.out
  have hs25 : w19.cell? ⟨gb236, 5, none⟩ = some (.int .i64 0) := (blk_cell BK236.out 5).trans rfl
  have hfs25 := blk_frozen BK236.out 5
  have hns25_0 := NB217_236.out
  have hns25_1 := NB218_236.out
  have hns25_3 := NB237_236.out
  have hms25_0 := NB236_217.out
  have hms25_1 := NB236_218.out
  have hms25_3 := NB236_237.out
  have hs26 : w19.cell? ⟨gb236, 6, none⟩ = some (.int .u64 0) := (blk_cell BK236.out 6).trans rfl
  have hfs26 := blk_frozen BK236.out 6
  have hns26_0 := NB217_236.out
  have hns26_1 := NB218_236.out
  have hns26_3 := NB237_236.out
  have hms26_0 := NB236_217.out
  have hms26_1 := NB236_218.out
  have hms26_3 := NB236_237.out
  have hs27 : w19.cell? ⟨gb236, 7, none⟩ = some (.int .i64 0) := (blk_cell BK236.out 7).trans rfl
  have hfs27 := blk_frozen BK236.out 7
  have hns27_0 := NB217_236.out
  have hns27_1 := NB218_236.out
  have hns27_3 := NB237_236.out
  have hms27_0 := NB236_217.out
  have hms27_1 := NB236_218.out
  have hms27_3 := NB236_237.out
  refine skip_ (w1 := ?_) (by rfl) rfl ?_ ?_
  rotate_left
  · go_simp
    rfl
  refine hK.out _ _ ⟨((cell_far (p := ⟨gb236, _, none⟩) NB217_236.out _).trans (((cell_far (p := ⟨gb236, _, none⟩) NB217_236.out _).trans (((cell_far (p := ⟨gb236, _, none⟩) NB217_236.out _).trans (((cell_far (p := ⟨gb236, _, none⟩) NB217_236.out _).trans (((cell_far (p := ⟨gb236, _, none⟩) NB217_236.out _).trans (((cell_far (p := ⟨gb236, _, none⟩) NB217_236.out _).trans (((cell_far (p := ⟨gb236, _, none⟩) NB217_236.out _).trans (((cell_far (p := ⟨gb236, _, none⟩) NB217_236.out _).trans (hHeld.1)))))))))))))))), ((cell_far (p := ⟨gb236, _, none⟩) NB217_236.out _).trans (((cell_far (p := ⟨gb236, _, none⟩) NB217_236.out _).trans (((cell_far (p := ⟨gb236, _, none⟩) NB217_236.out _).trans (((cell_far (p := ⟨gb236, _, none⟩) NB217_236.out _).trans (((cell_far (p := ⟨gb236, _, none⟩) NB217_236.out _).trans (((cell_far (p := ⟨gb236, _, none⟩) NB217_236.out _).trans (((cell_far (p := ⟨gb236, _, none⟩) NB217_236.out _).trans (((cell_far (p := ⟨gb236, _, none⟩) NB217_236.out _).trans (hHeld.2.1)))))))))))))))), ((cell_far (p := ⟨gb236, _, none⟩) NB217_236.out _).trans (((cell_far (p := ⟨gb236, _, none⟩) NB217_236.out _).trans (((cell_far (p := ⟨gb236, _, none⟩) NB217_236.out _).trans (((cell_far (p := ⟨gb236, _, none⟩) NB217_236.out _).trans (((cell_far (p := ⟨gb236, _, none⟩) NB217_236.out _).trans (((cell_far (p := ⟨gb236, _, none⟩) NB217_236.out _).trans (((cell_far (p := ⟨gb236, _, none⟩) NB217_236.out _).trans (((cell_far (p := ⟨gb236, _, none⟩) NB217_236.out _).trans (hHeld.2.2.1)))))))))))))))), ((cell_far (p := ⟨gb236, _, none⟩) NB217_236.out _).trans (((cell_far (p := ⟨gb236, _, none⟩) NB217_236.out _).trans (((cell_far (p := ⟨gb236, _, none⟩) NB217_236.out _).trans (((cell_far (p := ⟨gb236, _, none⟩) NB217_236.out _).trans (((cell_far (p := ⟨gb236, _, none⟩) NB217_236.out _).trans (((cell_far (p := ⟨gb236, _, none⟩) NB217_236.out _).trans (((cell_far (p := ⟨gb236, _, none⟩) NB217_236.out _).trans (((cell_far (p := ⟨gb236, _, none⟩) NB217_236.out _).trans (hHeld.2.2.2.1)))))))))))))))), ((cell_far (p := ⟨gb236, _, none⟩) NB217_236.out _).trans (((cell_far (p := ⟨gb236, _, none⟩) NB217_236.out _).trans (((cell_far (p := ⟨gb236, _, none⟩) NB217_236.out _).trans (((cell_far (p := ⟨gb236, _, none⟩) NB217_236.out _).trans (((cell_far (p := ⟨gb236, _, none⟩) NB217_236.out _).trans (((cell_far (p := ⟨gb236, _, none⟩) NB217_236.out _).trans (((cell_far (p := ⟨gb236, _, none⟩) NB217_236.out _).trans (((cell_far (p := ⟨gb236, _, none⟩) NB217_236.out _).trans (hHeld.2.2.2.2.1)))))))))))))))), ((cell_far (p := ⟨gb236, _, none⟩) NB217_236.out _).trans (((cell_far (p := ⟨gb236, _, none⟩) NB217_236.out _).trans (((cell_far (p := ⟨gb236, _, none⟩) NB217_236.out _).trans (((cell_far (p := ⟨gb236, _, none⟩) NB217_236.out _).trans (((cell_far (p := ⟨gb236, _, none⟩) NB217_236.out _).trans (((cell_far (p := ⟨gb236, _, none⟩) NB217_236.out _).trans (((cell_far (p := ⟨gb236, _, none⟩) NB217_236.out _).trans (((cell_far (p := ⟨gb236, _, none⟩) NB217_236.out _).trans (hHeld.2.2.2.2.2.1)))))))))))))))), ((cell_far (p := ⟨gb236, _, none⟩) NB217_236.out _).trans (((cell_far (p := ⟨gb236, _, none⟩) NB217_236.out _).trans (((cell_far (p := ⟨gb236, _, none⟩) NB217_236.out _).trans (((cell_far (p := ⟨gb236, _, none⟩) NB217_236.out _).trans (((cell_far (p := ⟨gb236, _, none⟩) NB217_236.out _).trans (((cell_far (p := ⟨gb236, _, none⟩) NB217_236.out _).trans (((cell_far (p := ⟨gb236, _, none⟩) NB217_236.out _).trans (((cell_far (p := ⟨gb236, _, none⟩) NB217_236.out _).trans (hHeld.2.2.2.2.2.2.1)))))))))))))))), ((cell_far (p := ⟨gb236, _, none⟩) NB217_236.out _).trans (((cell_far (p := ⟨gb236, _, none⟩) NB217_236.out _).trans (((cell_far (p := ⟨gb236, _, none⟩) NB217_236.out _).trans (((cell_far (p := ⟨gb236, _, none⟩) NB217_236.out _).trans (((cell_far (p := ⟨gb236, _, none⟩) NB217_236.out _).trans (((cell_far (p := ⟨gb236, _, none⟩) NB217_236.out _).trans (((cell_far (p := ⟨gb236, _, none⟩) NB217_236.out _).trans (((cell_far (p := ⟨gb236, _, none⟩) NB217_236.out _).trans (hHeld.2.2.2.2.2.2.2.1)))))))))))))))), ((cell_far (p := ⟨gb236, _, none⟩) NB218_236.out _).trans (((cell_far (p := ⟨gb236, _, none⟩) NB218_236.out _).trans (((cell_far (p := ⟨gb236, _, none⟩) NB218_236.out _).trans (((cell_far (p := ⟨gb236, _, none⟩) NB218_236.out _).trans (((cell_far (p := ⟨gb236, _, none⟩) NB218_236.out _).trans (((cell_far (p := ⟨gb236, _, none⟩) NB218_236.out _).trans (((cell_far (p := ⟨gb236, _, none⟩) NB218_236.out _).trans (((cell_far (p := ⟨gb236, _, none⟩) NB218_236.out _).trans (hHeld.2.2.2.2.2.2.2.2.1)))))))))))))))), ((cell_far (p := ⟨gb236, _, none⟩) NB218_236.out _).trans (((cell_far (p := ⟨gb236, _, none⟩) NB218_236.out _).trans (((cell_far (p := ⟨gb236, _, none⟩) NB218_236.out _).trans (((cell_far (p := ⟨gb236, _, none⟩) NB218_236.out _).trans (((cell_far (p := ⟨gb236, _, none⟩) NB218_236.out _).trans (((cell_far (p := ⟨gb236, _, none⟩) NB218_236.out _).trans (((cell_far (p := ⟨gb236, _, none⟩) NB218_236.out _).trans (((cell_far (p := ⟨gb236, _, none⟩) NB218_236.out _).trans (hHeld.2.2.2.2.2.2.2.2.2.1)))))))))))))))), ((cell_far (p := ⟨gb236, _, none⟩) NB218_236.out _).trans (((cell_far (p := ⟨gb236, _, none⟩) NB218_236.out _).trans (((cell_far (p := ⟨gb236, _, none⟩) NB218_236.out _).trans (((cell_far (p := ⟨gb236, _, none⟩) NB218_236.out _).trans (((cell_far (p := ⟨gb236, _, none⟩) NB218_236.out _).trans (((cell_far (p := ⟨gb236, _, none⟩) NB218_236.out _).trans (((cell_far (p := ⟨gb236, _, none⟩) NB218_236.out _).trans (((cell_far (p := ⟨gb236, _, none⟩) NB218_236.out _).trans (hHeld.2.2.2.2.2.2.2.2.2.2.1)))))))))))))))), ((cell_far (p := ⟨gb236, _, none⟩) NB218_236.out _).trans (((cell_far (p := ⟨gb236, _, none⟩) NB218_236.out _).trans (((cell_far (p := ⟨gb236, _, none⟩) NB218_236.out _).trans (((cell_far (p := ⟨gb236, _, none⟩) NB218_236.out _).trans (((cell_far (p := ⟨gb236, _, none⟩) NB218_236.out _).trans (((cell_far (p := ⟨gb236, _, none⟩) NB218_236.out _).trans (((cell_far (p := ⟨gb236, _, none⟩) NB218_236.out _).trans (((cell_far (p := ⟨gb236, _, none⟩) NB218_236.out _).trans (hHeld.2.2.2.2.2.2.2.2.2.2.2.1)))))))))))))))), ((cell_far (p := ⟨gb236, _, none⟩) NB218_236.out _).trans (((cell_far (p := ⟨gb236, _, none⟩) NB218_236.out _).trans (((cell_far (p := ⟨gb236, _, none⟩) NB218_236.out _).trans (((cell_far (p := ⟨gb236, _, none⟩) NB218_236.out _).trans (((cell_far (p := ⟨gb236, _, none⟩) NB218_236.out _).trans (((cell_far (p := ⟨gb236, _, none⟩) NB218_236.out _).trans (((cell_far (p := ⟨gb236, _, none⟩) NB218_236.out _).trans (((cell_far (p := ⟨gb236, _, none⟩) NB218_236.out _).trans (hHeld.2.2.2.2.2.2.2.2.2.2.2.2.1)))))))))))))))), ((cell_far (p := ⟨gb236, _, none⟩) NB218_236.out _).trans (((cell_far (p := ⟨gb236, _, none⟩) NB218_236.out _).trans (((cell_far (p := ⟨gb236, _, none⟩) NB218_236.out _).trans (((cell_far (p := ⟨gb236, _, none⟩) NB218_236.out _).trans (((cell_far (p := ⟨gb236, _, none⟩) NB218_236.out _).trans (((cell_far (p := ⟨gb236, _, none⟩) NB218_236.out _).trans (((cell_far (p := ⟨gb236, _, none⟩) NB218_236.out _).trans (((cell_far (p := ⟨gb236, _, none⟩) NB218_236.out _).trans (hHeld.2.2.2.2.2.2.2.2.2.2.2.2.2.1)))))))))))))))), ((cell_far (p := ⟨gb236, _, none⟩) NB218_236.out _).trans (((cell_far (p := ⟨gb236, _, none⟩) NB218_236.out _).trans (((cell_far (p := ⟨gb236, _, none⟩) NB218_236.out _).trans (((cell_far (p := ⟨gb236, _, none⟩) NB218_236.out _).trans (((cell_far (p := ⟨gb236, _, none⟩) NB218_236.out _).trans (((cell_far (p := ⟨gb236, _, none⟩) NB218_236.out _).trans (((cell_far (p := ⟨gb236, _, none⟩) NB218_236.out _).trans (((cell_far (p := ⟨gb236, _, none⟩) NB218_236.out _).trans (hHeld.2.2.2.2.2.2.2.2.2.2.2.2.2.2.1)))))))))))))))), ((cell_far (p := ⟨gb236, _, none⟩) NB218_236.out _).trans (((cell_far (p := ⟨gb236, _, none⟩) NB218_236.out _).trans (((cell_far (p := ⟨gb236, _, none⟩) NB218_236.out _).trans (((cell_far (p := ⟨gb236, _, none⟩) NB218_236.out _).trans (((cell_far (p := ⟨gb236, _, none⟩) NB218_236.out _).trans (((cell_far (p := ⟨gb236, _, none⟩) NB218_236.out _).trans (((cell_far (p := ⟨gb236, _, none⟩) NB218_236.out _).trans (((cell_far (p := ⟨gb236, _, none⟩) NB218_236.out _).trans (hHeld.2.2.2.2.2.2.2.2.2.2.2.2.2.2.2))))))))))))))))⟩ (fun hHeld => ?_)
  clear hK K
  obtain ⟨w20, hw_⟩ : ∃ w_, w_ = ((((((((w19.setCell ⟨gb236, 0, none⟩ (.int .i64 t220)).setCell ⟨gb236, 1, none⟩ (.int .i64 t221)).setCell ⟨gb236, 2, none⟩ (.int .i64 t222)).setCell ⟨gb236, 3, none⟩ (.int .i64 t223)).setCell ⟨gb236, 4, none⟩ (.int .i64 t224)).setCell ⟨gb236, 5, none⟩ (.int .i64 t225)).setCell ⟨gb236, 6, none⟩ (.int .u64 t226)).setCell ⟨gb236, 7, none⟩ (.int .i64 t227)) := ⟨_, rfl⟩
  have nb217_ : Aside0 (w20.heap[gb217]? = some (Obj.cells #[.int .i64 a0_0, .int .i64 a0_1, .int .i64 a0_2, .int .i64 a0_3, .int .i64 a0_4, .int .i64 a0_5, .int .u64 a0_6, .int .i64 a0_7] 26 (0, 0))) := Aside0.mk (by rw [hw_]; exact blk_far (blk_far (blk_far (blk_far (blk_far (blk_far (blk_far (blk_far BK217.out NB217_236.out _) NB217_236.out _) NB217_236.out _) NB217_236.out _) NB217_236.out _) NB217_236.out _) NB217_236.out _) NB217_236.out _)
  have nb218_ : Aside0 (w20.heap[gb218]? = some (Obj.cells #[.int .i64 a1_0, .int .i64 a1_1, .int .i64 a1_2, .int .i64 a1_3, .int .i64 a1_4, .int .i64 a1_5, .int .u64 a1_6, .int .i64 a1_7] 26 (0, 0))) := Aside0.mk (by rw [hw_]; exact blk_far (blk_far (blk_far (blk_far (blk_far (blk_far (blk_far (blk_far BK218.out NB218_236.out _) NB218_236.out _) NB218_236.out _) NB218_236.out _) NB218_236.out _) NB218_236.out _) NB218_236.out _) NB218_236.out _)
  have nb237_ : Aside0 (w20.heap[gb237]? = some (Obj.cells #[.int .i64 0, .int .i64 0, .int .i64 0, .int .i64 0, .int .i64 0, .int .i64 0, .int .u64 0, .int .i64 0] 26 (0, 0))) := Aside0.mk (by rw [hw_]; exact blk_far (blk_far (blk_far (blk_far (blk_far (blk_far (blk_far (blk_far BK237.out NB237_236.out _) NB237_236.out _) NB237_236.out _) NB237_236.out _) NB237_236.out _) NB237_236.out _) NB237_236.out _) NB237_236.out _)
  have nb236_ : Aside0 (w20.heap[gb236]? = some (Obj.cells #[.int .i64 t220, .int .i64 t221, .int .i64 t222, .int .i64 t223, .int .i64 t224, .int .i64 t225, .int .u64 t226, .int .i64 t227] 26 (0, 0))) := Aside0.mk (by rw [hw_]; exact (blk_put (cs := #[.int .i64 t220, .int .i64 t221, .int .i64 t222, .int .i64 t223, .int .i64 t224, .int .i64 t225, .int .u64 t226, .int .i64 0]) (blk_put (cs := #[.int .i64 t220, .int .i64 t221, .int .i64 t222, .int .i64 t223, .int .i64 t224, .int .i64 t225, .int .u64 0, .int .i64 0]) (blk_put (cs := #[.int .i64 t220, .int .i64 t221, .int .i64 t222, .int .i64 t223, .int .i64 t224, .int .i64 0, .int .u64 0, .int .i64 0]) (blk_put (cs := #[.int .i64 t220, .int .i64 t221, .int .i64 t222, .int .i64 t223, .int .i64 0, .int .i64 0, .int .u64 0, .int .i64 0]) (blk_put (cs := #[.int .i64 t220, .int .i64 t221, .int .i64 t222, .int .i64 0, .int .i64 0, .int .i64 0, .int .u64 0, .int .i64 0]) (blk_put (cs := #[.int .i64 t220, .int .i64 t221, .int .i64 0, .int .i64 0, .int .i64 0, .int .i64 0, .int .u64 0, .int .i64 0]) (blk_put (cs := #[.int .i64 t220, .int .i64 0, .int .i64 0, .int .i64 0, .int .i64 0, .int .i64 0, .int .u64 0, .int .i64 0]) (blk_put (cs := #[.int .i64 0, .int .i64 0, .int .i64 0, .int .i64 0, .int .i64 0, .int .i64 0, .int .u64 0, .int .i64 0]) BK236.out 0 _ rfl) 1 _ rfl) 2 _ rfl) 3 _ rfl) 4 _ rfl) 5 _ rfl) 6 _ rfl) 7 _ rfl))
  have nh_ : Aside0 (Below w.heap.size w w20) := Aside0.mk (by rw [hw_]; exact below_set (below_set (below_set (below_set (below_set (below_set (below_set (below_set HB.out GE236.out) GE236.out) GE236.out) GE236.out) GE236.out) GE236.out) GE236.out) GE236.out)
  rw [← hw_] at hHeld ⊢
  clear hw_ BK217 BK218 BK236 BK237 HB
  have BK217 := nb217_
  have BK218 := nb218_
  have BK236 := nb236_
  have BK237 := nb237_
  have HB := nh_
  clear nb217_ nb218_ nb236_ nb237_ nh_
  refine one_ (i := 7) (N := none) #[true, true, true, true, true, true, true, true] rfl rfl (one_of HT_.out (by kernel_rfl)) (by decide) (fun K hK => ?_)
  have hs28 : w20.cell? ⟨gb237, 0, none⟩ = some (.int .i64 0) := (blk_cell BK237.out 0).trans rfl
  have hfs28 := blk_frozen BK237.out 0
  have hns28_0 := NB217_237.out
  have hns28_1 := NB218_237.out
  have hns28_2 := NB236_237.out
  have hms28_0 := NB237_217.out
  have hms28_1 := NB237_218.out
  have hms28_2 := NB237_236.out
  have hs29 : w20.cell? ⟨gb237, 1, none⟩ = some (.int .i64 0) := (blk_cell BK237.out 1).trans rfl
  have hfs29 := blk_frozen BK237.out 1
  have hns29_0 := NB217_237.out
  have hns29_1 := NB218_237.out
  have hns29_2 := NB236_237.out
  have hms29_0 := NB237_217.out
  have hms29_1 := NB237_218.out
  have hms29_2 := NB237_236.out
  have hs30 : w20.cell? ⟨gb237, 2, none⟩ = some (.int .i64 0) := (blk_cell BK237.out 2).trans rfl
  have hfs30 := blk_frozen BK237.out 2
  have hns30_0 := NB217_237.out
  have hns30_1 := NB218_237.out
  have hns30_2 := NB236_237.out
  have hms30_0 := NB237_217.out
  have hms30_1 := NB237_218.out
  have hms30_2 := NB237_236.out
  have hs31 : w20.cell? ⟨gb237, 3, none⟩ = some (.int .i64 0) := (blk_cell BK237.out 3).trans rfl
  have hfs31 := blk_frozen BK237.out 3
  have hns31_0 := NB217_237.out
  have hns31_1 := NB218_237.out
  have hns31_2 := NB236_237.out
  have hms31_0 := NB237_217.out
  have hms31_1 := NB237_218.out
  have hms31_2 := NB237_236.out
  have hs32 : w20.cell? ⟨gb237, 4, none⟩ = some (.int .i64 0) := (blk_cell BK237.out 4).trans rfl
  have hfs32 := blk_frozen BK237.out 4
  have hns32_0 := NB217_237.out
  have hns32_1 := NB218_237.out
  have hns32_2 := NB236_237.out
  have hms32_0 := NB237_217.out
  have hms32_1 := NB237_218.out
  have hms32_2 := NB237_236.out
  have hs33 : w20.cell? ⟨gb237, 5, none⟩ = some (.int .i64 0) := (blk_cell BK237.out 5).trans rfl
  have hfs33 := blk_frozen BK237.out 5
  have hns33_0 := NB217_237.out
  have hns33_1 := NB218_237.out
  have hns33_2 := NB236_237.out
  have hms33_0 := NB237_217.out
  have hms33_1 := NB237_218.out
  have hms33_2 := NB237_236.out
  have hs34 : w20.cell? ⟨gb237, 6, none⟩ = some (.int .u64 0) := (blk_cell BK237.out 6).trans rfl
  have hfs34 := blk_frozen BK237.out 6
  have hns34_0 := NB217_237.out
  have hns34_1 := NB218_237.out
  have hns34_2 := NB236_237.out
  have hms34_0 := NB237_217.out
  have hms34_1 := NB237_218.out
  have hms34_2 := NB237_236.out
  have hs35 : w20.cell? ⟨gb237, 7, none⟩ = some (.int .i64 0) := (blk_cell BK237.out 7).trans rfl
  have hfs35 := blk_frozen BK237.out 7
  have hns35_0 := NB217_237.out
  have hns35_1 := NB218_237.out
  have hns35_2 := NB236_237.out
  have hms35_0 := NB237_217.out
  have hms35_1 := NB237_218.out
  have hms35_2 := NB237_236.out
  refine skip_ (w1 := ?_) (by rfl) rfl ?_ ?_
  rotate_left
  · go_simp
    rfl
  refine hK.out _ _ ⟨((cell_far (p := ⟨gb237, _, none⟩) NB217_237.out _).trans (((cell_far (p := ⟨gb237, _, none⟩) NB217_237.out _).trans (((cell_far (p := ⟨gb237, _, none⟩) NB217_237.out _).trans (((cell_far (p := ⟨gb237, _, none⟩) NB217_237.out _).trans (((cell_far (p := ⟨gb237, _, none⟩) NB217_237.out _).trans (((cell_far (p := ⟨gb237, _, none⟩) NB217_237.out _).trans (((cell_far (p := ⟨gb237, _, none⟩) NB217_237.out _).trans (((cell_far (p := ⟨gb237, _, none⟩) NB217_237.out _).trans (hHeld.1)))))))))))))))), ((cell_far (p := ⟨gb237, _, none⟩) NB217_237.out _).trans (((cell_far (p := ⟨gb237, _, none⟩) NB217_237.out _).trans (((cell_far (p := ⟨gb237, _, none⟩) NB217_237.out _).trans (((cell_far (p := ⟨gb237, _, none⟩) NB217_237.out _).trans (((cell_far (p := ⟨gb237, _, none⟩) NB217_237.out _).trans (((cell_far (p := ⟨gb237, _, none⟩) NB217_237.out _).trans (((cell_far (p := ⟨gb237, _, none⟩) NB217_237.out _).trans (((cell_far (p := ⟨gb237, _, none⟩) NB217_237.out _).trans (hHeld.2.1)))))))))))))))), ((cell_far (p := ⟨gb237, _, none⟩) NB217_237.out _).trans (((cell_far (p := ⟨gb237, _, none⟩) NB217_237.out _).trans (((cell_far (p := ⟨gb237, _, none⟩) NB217_237.out _).trans (((cell_far (p := ⟨gb237, _, none⟩) NB217_237.out _).trans (((cell_far (p := ⟨gb237, _, none⟩) NB217_237.out _).trans (((cell_far (p := ⟨gb237, _, none⟩) NB217_237.out _).trans (((cell_far (p := ⟨gb237, _, none⟩) NB217_237.out _).trans (((cell_far (p := ⟨gb237, _, none⟩) NB217_237.out _).trans (hHeld.2.2.1)))))))))))))))), ((cell_far (p := ⟨gb237, _, none⟩) NB217_237.out _).trans (((cell_far (p := ⟨gb237, _, none⟩) NB217_237.out _).trans (((cell_far (p := ⟨gb237, _, none⟩) NB217_237.out _).trans (((cell_far (p := ⟨gb237, _, none⟩) NB217_237.out _).trans (((cell_far (p := ⟨gb237, _, none⟩) NB217_237.out _).trans (((cell_far (p := ⟨gb237, _, none⟩) NB217_237.out _).trans (((cell_far (p := ⟨gb237, _, none⟩) NB217_237.out _).trans (((cell_far (p := ⟨gb237, _, none⟩) NB217_237.out _).trans (hHeld.2.2.2.1)))))))))))))))), ((cell_far (p := ⟨gb237, _, none⟩) NB217_237.out _).trans (((cell_far (p := ⟨gb237, _, none⟩) NB217_237.out _).trans (((cell_far (p := ⟨gb237, _, none⟩) NB217_237.out _).trans (((cell_far (p := ⟨gb237, _, none⟩) NB217_237.out _).trans (((cell_far (p := ⟨gb237, _, none⟩) NB217_237.out _).trans (((cell_far (p := ⟨gb237, _, none⟩) NB217_237.out _).trans (((cell_far (p := ⟨gb237, _, none⟩) NB217_237.out _).trans (((cell_far (p := ⟨gb237, _, none⟩) NB217_237.out _).trans (hHeld.2.2.2.2.1)))))))))))))))), ((cell_far (p := ⟨gb237, _, none⟩) NB217_237.out _).trans (((cell_far (p := ⟨gb237, _, none⟩) NB217_237.out _).trans (((cell_far (p := ⟨gb237, _, none⟩) NB217_237.out _).trans (((cell_far (p := ⟨gb237, _, none⟩) NB217_237.out _).trans (((cell_far (p := ⟨gb237, _, none⟩) NB217_237.out _).trans (((cell_far (p := ⟨gb237, _, none⟩) NB217_237.out _).trans (((cell_far (p := ⟨gb237, _, none⟩) NB217_237.out _).trans (((cell_far (p := ⟨gb237, _, none⟩) NB217_237.out _).trans (hHeld.2.2.2.2.2.1)))))))))))))))), ((cell_far (p := ⟨gb237, _, none⟩) NB217_237.out _).trans (((cell_far (p := ⟨gb237, _, none⟩) NB217_237.out _).trans (((cell_far (p := ⟨gb237, _, none⟩) NB217_237.out _).trans (((cell_far (p := ⟨gb237, _, none⟩) NB217_237.out _).trans (((cell_far (p := ⟨gb237, _, none⟩) NB217_237.out _).trans (((cell_far (p := ⟨gb237, _, none⟩) NB217_237.out _).trans (((cell_far (p := ⟨gb237, _, none⟩) NB217_237.out _).trans (((cell_far (p := ⟨gb237, _, none⟩) NB217_237.out _).trans (hHeld.2.2.2.2.2.2.1)))))))))))))))), ((cell_far (p := ⟨gb237, _, none⟩) NB217_237.out _).trans (((cell_far (p := ⟨gb237, _, none⟩) NB217_237.out _).trans (((cell_far (p := ⟨gb237, _, none⟩) NB217_237.out _).trans (((cell_far (p := ⟨gb237, _, none⟩) NB217_237.out _).trans (((cell_far (p := ⟨gb237, _, none⟩) NB217_237.out _).trans (((cell_far (p := ⟨gb237, _, none⟩) NB217_237.out _).trans (((cell_far (p := ⟨gb237, _, none⟩) NB217_237.out _).trans (((cell_far (p := ⟨gb237, _, none⟩) NB217_237.out _).trans (hHeld.2.2.2.2.2.2.2.1)))))))))))))))), ((cell_far (p := ⟨gb237, _, none⟩) NB218_237.out _).trans (((cell_far (p := ⟨gb237, _, none⟩) NB218_237.out _).trans (((cell_far (p := ⟨gb237, _, none⟩) NB218_237.out _).trans (((cell_far (p := ⟨gb237, _, none⟩) NB218_237.out _).trans (((cell_far (p := ⟨gb237, _, none⟩) NB218_237.out _).trans (((cell_far (p := ⟨gb237, _, none⟩) NB218_237.out _).trans (((cell_far (p := ⟨gb237, _, none⟩) NB218_237.out _).trans (((cell_far (p := ⟨gb237, _, none⟩) NB218_237.out _).trans (hHeld.2.2.2.2.2.2.2.2.1)))))))))))))))), ((cell_far (p := ⟨gb237, _, none⟩) NB218_237.out _).trans (((cell_far (p := ⟨gb237, _, none⟩) NB218_237.out _).trans (((cell_far (p := ⟨gb237, _, none⟩) NB218_237.out _).trans (((cell_far (p := ⟨gb237, _, none⟩) NB218_237.out _).trans (((cell_far (p := ⟨gb237, _, none⟩) NB218_237.out _).trans (((cell_far (p := ⟨gb237, _, none⟩) NB218_237.out _).trans (((cell_far (p := ⟨gb237, _, none⟩) NB218_237.out _).trans (((cell_far (p := ⟨gb237, _, none⟩) NB218_237.out _).trans (hHeld.2.2.2.2.2.2.2.2.2.1)))))))))))))))), ((cell_far (p := ⟨gb237, _, none⟩) NB218_237.out _).trans (((cell_far (p := ⟨gb237, _, none⟩) NB218_237.out _).trans (((cell_far (p := ⟨gb237, _, none⟩) NB218_237.out _).trans (((cell_far (p := ⟨gb237, _, none⟩) NB218_237.out _).trans (((cell_far (p := ⟨gb237, _, none⟩) NB218_237.out _).trans (((cell_far (p := ⟨gb237, _, none⟩) NB218_237.out _).trans (((cell_far (p := ⟨gb237, _, none⟩) NB218_237.out _).trans (((cell_far (p := ⟨gb237, _, none⟩) NB218_237.out _).trans (hHeld.2.2.2.2.2.2.2.2.2.2.1)))))))))))))))), ((cell_far (p := ⟨gb237, _, none⟩) NB218_237.out _).trans (((cell_far (p := ⟨gb237, _, none⟩) NB218_237.out _).trans (((cell_far (p := ⟨gb237, _, none⟩) NB218_237.out _).trans (((cell_far (p := ⟨gb237, _, none⟩) NB218_237.out _).trans (((cell_far (p := ⟨gb237, _, none⟩) NB218_237.out _).trans (((cell_far (p := ⟨gb237, _, none⟩) NB218_237.out _).trans (((cell_far (p := ⟨gb237, _, none⟩) NB218_237.out _).trans (((cell_far (p := ⟨gb237, _, none⟩) NB218_237.out _).trans (hHeld.2.2.2.2.2.2.2.2.2.2.2.1)))))))))))))))), ((cell_far (p := ⟨gb237, _, none⟩) NB218_237.out _).trans (((cell_far (p := ⟨gb237, _, none⟩) NB218_237.out _).trans (((cell_far (p := ⟨gb237, _, none⟩) NB218_237.out _).trans (((cell_far (p := ⟨gb237, _, none⟩) NB218_237.out _).trans (((cell_far (p := ⟨gb237, _, none⟩) NB218_237.out _).trans (((cell_far (p := ⟨gb237, _, none⟩) NB218_237.out _).trans (((cell_far (p := ⟨gb237, _, none⟩) NB218_237.out _).trans (((cell_far (p := ⟨gb237, _, none⟩) NB218_237.out _).trans (hHeld.2.2.2.2.2.2.2.2.2.2.2.2.1)))))))))))))))), ((cell_far (p := ⟨gb237, _, none⟩) NB218_237.out _).trans (((cell_far (p := ⟨gb237, _, none⟩) NB218_237.out _).trans (((cell_far (p := ⟨gb237, _, none⟩) NB218_237.out _).trans (((cell_far (p := ⟨gb237, _, none⟩) NB218_237.out _).trans (((cell_far (p := ⟨gb237, _, none⟩) NB218_237.out _).trans (((cell_far (p := ⟨gb237, _, none⟩) NB218_237.out _).trans (((cell_far (p := ⟨gb237, _, none⟩) NB218_237.out _).trans (((cell_far (p := ⟨gb237, _, none⟩) NB218_237.out _).trans (hHeld.2.2.2.2.2.2.2.2.2.2.2.2.2.1)))))))))))))))), ((cell_far (p := ⟨gb237, _, none⟩) NB218_237.out _).trans (((cell_far (p := ⟨gb237, _, none⟩) NB218_237.out _).trans (((cell_far (p := ⟨gb237, _, none⟩) NB218_237.out _).trans (((cell_far (p := ⟨gb237, _, none⟩) NB218_237.out _).trans (((cell_far (p := ⟨gb237, _, none⟩) NB218_237.out _).trans (((cell_far (p := ⟨gb237, _, none⟩) NB218_237.out _).trans (((cell_far (p := ⟨gb237, _, none⟩) NB218_237.out _).trans (((cell_far (p := ⟨gb237, _, none⟩) NB218_237.out _).trans (hHeld.2.2.2.2.2.2.2.2.2.2.2.2.2.2.1)))))))))))))))), ((cell_far (p := ⟨gb237, _, none⟩) NB218_237.out _).trans (((cell_far (p := ⟨gb237, _, none⟩) NB218_237.out _).trans (((cell_far (p := ⟨gb237, _, none⟩) NB218_237.out _).trans (((cell_far (p := ⟨gb237, _, none⟩) NB218_237.out _).trans (((cell_far (p := ⟨gb237, _, none⟩) NB218_237.out _).trans (((cell_far (p := ⟨gb237, _, none⟩) NB218_237.out _).trans (((cell_far (p := ⟨gb237, _, none⟩) NB218_237.out _).trans (((cell_far (p := ⟨gb237, _, none⟩) NB218_237.out _).trans (hHeld.2.2.2.2.2.2.2.2.2.2.2.2.2.2.2))))))))))))))))⟩ (fun hHeld => ?_)
  clear hK K
  obtain ⟨w21, hw_⟩ : ∃ w_, w_ = ((((((((w20.setCell ⟨gb237, 0, none⟩ (.int .i64 t228)).setCell ⟨gb237, 1, none⟩ (.int .i64 t229)).setCell ⟨gb237, 2, none⟩ (.int .i64 t230)).setCell ⟨gb237, 3, none⟩ (.int .i64 t231)).setCell ⟨gb237, 4, none⟩ (.int .i64 t232)).setCell ⟨gb237, 5, none⟩ (.int .i64 t233)).setCell ⟨gb237, 6, none⟩ (.int .u64 t234)).setCell ⟨gb237, 7, none⟩ (.int .i64 t235)) := ⟨_, rfl⟩
  have nb217_ : Aside0 (w21.heap[gb217]? = some (Obj.cells #[.int .i64 a0_0, .int .i64 a0_1, .int .i64 a0_2, .int .i64 a0_3, .int .i64 a0_4, .int .i64 a0_5, .int .u64 a0_6, .int .i64 a0_7] 26 (0, 0))) := Aside0.mk (by rw [hw_]; exact blk_far (blk_far (blk_far (blk_far (blk_far (blk_far (blk_far (blk_far BK217.out NB217_237.out _) NB217_237.out _) NB217_237.out _) NB217_237.out _) NB217_237.out _) NB217_237.out _) NB217_237.out _) NB217_237.out _)
  have nb218_ : Aside0 (w21.heap[gb218]? = some (Obj.cells #[.int .i64 a1_0, .int .i64 a1_1, .int .i64 a1_2, .int .i64 a1_3, .int .i64 a1_4, .int .i64 a1_5, .int .u64 a1_6, .int .i64 a1_7] 26 (0, 0))) := Aside0.mk (by rw [hw_]; exact blk_far (blk_far (blk_far (blk_far (blk_far (blk_far (blk_far (blk_far BK218.out NB218_237.out _) NB218_237.out _) NB218_237.out _) NB218_237.out _) NB218_237.out _) NB218_237.out _) NB218_237.out _) NB218_237.out _)
  have nb236_ : Aside0 (w21.heap[gb236]? = some (Obj.cells #[.int .i64 t220, .int .i64 t221, .int .i64 t222, .int .i64 t223, .int .i64 t224, .int .i64 t225, .int .u64 t226, .int .i64 t227] 26 (0, 0))) := Aside0.mk (by rw [hw_]; exact blk_far (blk_far (blk_far (blk_far (blk_far (blk_far (blk_far (blk_far BK236.out NB236_237.out _) NB236_237.out _) NB236_237.out _) NB236_237.out _) NB236_237.out _) NB236_237.out _) NB236_237.out _) NB236_237.out _)
  have nb237_ : Aside0 (w21.heap[gb237]? = some (Obj.cells #[.int .i64 t228, .int .i64 t229, .int .i64 t230, .int .i64 t231, .int .i64 t232, .int .i64 t233, .int .u64 t234, .int .i64 t235] 26 (0, 0))) := Aside0.mk (by rw [hw_]; exact (blk_put (cs := #[.int .i64 t228, .int .i64 t229, .int .i64 t230, .int .i64 t231, .int .i64 t232, .int .i64 t233, .int .u64 t234, .int .i64 0]) (blk_put (cs := #[.int .i64 t228, .int .i64 t229, .int .i64 t230, .int .i64 t231, .int .i64 t232, .int .i64 t233, .int .u64 0, .int .i64 0]) (blk_put (cs := #[.int .i64 t228, .int .i64 t229, .int .i64 t230, .int .i64 t231, .int .i64 t232, .int .i64 0, .int .u64 0, .int .i64 0]) (blk_put (cs := #[.int .i64 t228, .int .i64 t229, .int .i64 t230, .int .i64 t231, .int .i64 0, .int .i64 0, .int .u64 0, .int .i64 0]) (blk_put (cs := #[.int .i64 t228, .int .i64 t229, .int .i64 t230, .int .i64 0, .int .i64 0, .int .i64 0, .int .u64 0, .int .i64 0]) (blk_put (cs := #[.int .i64 t228, .int .i64 t229, .int .i64 0, .int .i64 0, .int .i64 0, .int .i64 0, .int .u64 0, .int .i64 0]) (blk_put (cs := #[.int .i64 t228, .int .i64 0, .int .i64 0, .int .i64 0, .int .i64 0, .int .i64 0, .int .u64 0, .int .i64 0]) (blk_put (cs := #[.int .i64 0, .int .i64 0, .int .i64 0, .int .i64 0, .int .i64 0, .int .i64 0, .int .u64 0, .int .i64 0]) BK237.out 0 _ rfl) 1 _ rfl) 2 _ rfl) 3 _ rfl) 4 _ rfl) 5 _ rfl) 6 _ rfl) 7 _ rfl))
  have nh_ : Aside0 (Below w.heap.size w w21) := Aside0.mk (by rw [hw_]; exact below_set (below_set (below_set (below_set (below_set (below_set (below_set (below_set HB.out GE237.out) GE237.out) GE237.out) GE237.out) GE237.out) GE237.out) GE237.out) GE237.out)
  rw [← hw_] at hHeld ⊢
  clear hw_ BK217 BK218 BK236 BK237 HB
  have BK217 := nb217_
  have BK218 := nb218_
  have BK236 := nb236_
  have BK237 := nb237_
  have HB := nh_
  clear nb217_ nb218_ nb236_ nb237_ nh_
  refine done_ (done_of HT_.out (by kernel_rfl)) ?_
  have hnb36 := NB236_217.out
  have hnc36 := NB217_236.out
  have hnb37 := NB236_218.out
  have hnc37 := NB218_236.out
  have hnb38 := NB236_237.out
  have hnc38 := NB237_236.out
  have hcz39_0 : w21.cell? ⟨gb236, 0, none⟩ = some (.int .i64 t220) := (blk_cell BK236.out 0).trans rfl
  have hcz39_1 : w21.cell? ⟨gb236, 1, none⟩ = some (.int .i64 t221) := (blk_cell BK236.out 1).trans rfl
  have hcz39_2 : w21.cell? ⟨gb236, 2, none⟩ = some (.int .i64 t222) := (blk_cell BK236.out 2).trans rfl
  have hcz39_3 : w21.cell? ⟨gb236, 3, none⟩ = some (.int .i64 t223) := (blk_cell BK236.out 3).trans rfl
  have hcz39_4 : w21.cell? ⟨gb236, 4, none⟩ = some (.int .i64 t224) := (blk_cell BK236.out 4).trans rfl
  have hcz39_5 : w21.cell? ⟨gb236, 5, none⟩ = some (.int .i64 t225) := (blk_cell BK236.out 5).trans rfl
  have hcz39_6 : w21.cell? ⟨gb236, 6, none⟩ = some (.int .u64 t226) := (blk_cell BK236.out 6).trans rfl
  have hcz39_7 : w21.cell? ⟨gb236, 7, none⟩ = some (.int .i64 t227) := (blk_cell BK236.out 7).trans rfl
  have hfz39_0 := blk_frozen BK236.out 0
  have hfz39_1 := blk_frozen BK236.out 1
  have hfz39_2 := blk_frozen BK236.out 2
  have hfz39_3 := blk_frozen BK236.out 3
  have hfz39_4 := blk_frozen BK236.out 4
  have hfz39_5 := blk_frozen BK236.out 5
  have hfz39_6 := blk_frozen BK236.out 6
  have hfz39_7 := blk_frozen BK236.out 7
  try go_wp2_with (first | ((with_reducible refine gate_callee (f := 14) rfl ?_); refine goesL_ (some 19) rfl rfl Try.func14 (by kernel_rfl) rfl #[.agg #[.int .i64 t220, .int .i64 t221, .int .i64 t222, .int .i64 t223, .int .i64 t224, .int .i64 t225, .int .u64 t226, .int .i64 t227]] rfl (by (try simp only [List.map_toArray, List.map_cons, List.map_nil]); first | done | rfl | (simp only [List.length_drop, List.length_take]; rfl)) ?_; (with_reducible refine (encode_Encode.calls k t220 t221 t222 t223 t224 t225 t226 t227 t238 true _ A7.out).mono ?_); rintro e w40 ⟨v239, rfl, ho0, hb⟩; refine ⟨_, rfl, ?_⟩; have n0_ := Aside0.mk (Kd.R_lower ho0 (below_size (by repeat (first | (with_reducible first | exact HB.out | apply below_alloc | apply pw_below_drewN | apply below_drew1 | refine below_set ?_ GE217.out | refine below_set ?_ GE218.out | refine below_set ?_ GE236.out | refine below_set ?_ GE237.out) | exact HB.out)))); have n1_ := Aside0.mk (blk_below (g := gb217) (o := .cells #[.int .i64 a0_0, .int .i64 a0_1, .int .i64 a0_2, .int .i64 a0_3, .int .i64 a0_4, .int .i64 a0_5, .int .u64 a0_6, .int .i64 a0_7] 26 (0, 0)) (by (with_reducible repeat (first | refine blk_drewN ?_ _ | refine blk_drew ?_ | refine blk_alloc ?_ _)); exact BK217.out) hb); have n2_ := Aside0.mk (blk_below (g := gb218) (o := .cells #[.int .i64 a1_0, .int .i64 a1_1, .int .i64 a1_2, .int .i64 a1_3, .int .i64 a1_4, .int .i64 a1_5, .int .u64 a1_6, .int .i64 a1_7] 26 (0, 0)) (by (with_reducible repeat (first | refine blk_drewN ?_ _ | refine blk_drew ?_ | refine blk_alloc ?_ _)); exact BK218.out) hb); have n3_ := Aside0.mk (blk_below (g := gb236) (o := .cells #[.int .i64 t220, .int .i64 t221, .int .i64 t222, .int .i64 t223, .int .i64 t224, .int .i64 t225, .int .u64 t226, .int .i64 t227] 26 (0, 0)) (by (with_reducible repeat (first | refine blk_drewN ?_ _ | refine blk_drew ?_ | refine blk_alloc ?_ _)); exact BK236.out) hb); have n4_ := Aside0.mk (blk_below (g := gb237) (o := .cells #[.int .i64 t228, .int .i64 t229, .int .i64 t230, .int .i64 t231, .int .i64 t232, .int .i64 t233, .int .u64 t234, .int .i64 t235] 26 (0, 0)) (by (with_reducible repeat (first | refine blk_drewN ?_ _ | refine blk_drew ?_ | refine blk_alloc ?_ _)); exact BK237.out) hb); have n5_ := Aside0.mk (below_step (by repeat (first | (with_reducible first | exact HB.out | apply below_alloc | apply pw_below_drewN | apply below_drew1 | refine below_set ?_ GE217.out | refine below_set ?_ GE218.out | refine below_set ?_ GE236.out | refine below_set ?_ GE237.out) | exact HB.out)) hb); clear BK217; clear BK218; clear BK236; clear BK237; clear HB; have HO240 := n0_; have BK217 := n1_; have BK218 := n2_; have BK236 := n3_; have BK237 := n4_; have HB := n5_; clear n0_ n1_ n2_ n3_ n4_ n5_; (try clear hb); (try clear hb2); (try clear hk); (try clear hi); (try clear ho0); have hnb41 := NB237_217.out; have hnc41 := NB217_237.out; have hnb42 := NB237_218.out; have hnc42 := NB218_237.out; have hcz43_0 : w40.cell? ⟨gb237, 0, none⟩ = some (.int .i64 t228) := (blk_cell BK237.out 0).trans rfl; have hcz43_1 : w40.cell? ⟨gb237, 1, none⟩ = some (.int .i64 t229) := (blk_cell BK237.out 1).trans rfl; have hcz43_2 : w40.cell? ⟨gb237, 2, none⟩ = some (.int .i64 t230) := (blk_cell BK237.out 2).trans rfl; have hcz43_3 : w40.cell? ⟨gb237, 3, none⟩ = some (.int .i64 t231) := (blk_cell BK237.out 3).trans rfl; have hcz43_4 : w40.cell? ⟨gb237, 4, none⟩ = some (.int .i64 t232) := (blk_cell BK237.out 4).trans rfl; have hcz43_5 : w40.cell? ⟨gb237, 5, none⟩ = some (.int .i64 t233) := (blk_cell BK237.out 5).trans rfl; have hcz43_6 : w40.cell? ⟨gb237, 6, none⟩ = some (.int .u64 t234) := (blk_cell BK237.out 6).trans rfl; have hcz43_7 : w40.cell? ⟨gb237, 7, none⟩ = some (.int .i64 t235) := (blk_cell BK237.out 7).trans rfl; have hfz43_0 := blk_frozen BK237.out 0; have hfz43_1 := blk_frozen BK237.out 1; have hfz43_2 := blk_frozen BK237.out 2; have hfz43_3 := blk_frozen BK237.out 3; have hfz43_4 := blk_frozen BK237.out 4; have hfz43_5 := blk_frozen BK237.out 5; have hfz43_6 := blk_frozen BK237.out 6; have hfz43_7 := blk_frozen BK237.out 7) | ((with_reducible refine gate_callee (f := 14) rfl ?_); refine goesL_ (some 24) rfl rfl Try.func14 (by kernel_rfl) rfl #[.agg #[.int .i64 t228, .int .i64 t229, .int .i64 t230, .int .i64 t231, .int .i64 t232, .int .i64 t233, .int .u64 t234, .int .i64 t235]] rfl (by (try simp only [List.map_toArray, List.map_cons, List.map_nil]); first | done | rfl | (simp only [List.length_drop, List.length_take]; rfl)) ?_; (with_reducible refine (encode_Encode.calls k t228 t229 t230 t231 t232 t233 t234 t235 t242 true _ A8.out).mono ?_); rintro e w44 ⟨v243, rfl, ho0, hb⟩; refine ⟨_, rfl, ?_⟩; have n0_ := Aside0.mk (Kd.R_elder' (by (with_reducible repeat (first | apply Kd.R_alloc | apply Kd.R_drewN | apply Kd.R_drew)); exact HO240.out) (Kd.R_base ho0) hb); have n1_ := Aside0.mk (Kd.R_lower (Kd.R_new' ho0 (Kd.R_lt (by (with_reducible repeat (first | apply Kd.R_alloc | apply Kd.R_drewN | apply Kd.R_drew)); exact HO240.out))) (below_size (by repeat (first | (with_reducible first | exact HB.out | apply below_alloc | apply pw_below_drewN | apply below_drew1 | refine below_set ?_ GE217.out | refine below_set ?_ GE218.out | refine below_set ?_ GE236.out | refine below_set ?_ GE237.out) | exact HB.out)))); have n2_ := Aside0.mk (blk_below (g := gb217) (o := .cells #[.int .i64 a0_0, .int .i64 a0_1, .int .i64 a0_2, .int .i64 a0_3, .int .i64 a0_4, .int .i64 a0_5, .int .u64 a0_6, .int .i64 a0_7] 26 (0, 0)) (by (with_reducible repeat (first | refine blk_drewN ?_ _ | refine blk_drew ?_ | refine blk_alloc ?_ _)); exact BK217.out) hb); have n3_ := Aside0.mk (blk_below (g := gb218) (o := .cells #[.int .i64 a1_0, .int .i64 a1_1, .int .i64 a1_2, .int .i64 a1_3, .int .i64 a1_4, .int .i64 a1_5, .int .u64 a1_6, .int .i64 a1_7] 26 (0, 0)) (by (with_reducible repeat (first | refine blk_drewN ?_ _ | refine blk_drew ?_ | refine blk_alloc ?_ _)); exact BK218.out) hb); have n4_ := Aside0.mk (blk_below (g := gb236) (o := .cells #[.int .i64 t220, .int .i64 t221, .int .i64 t222, .int .i64 t223, .int .i64 t224, .int .i64 t225, .int .u64 t226, .int .i64 t227] 26 (0, 0)) (by (with_reducible repeat (first | refine blk_drewN ?_ _ | refine blk_drew ?_ | refine blk_alloc ?_ _)); exact BK236.out) hb); have n5_ := Aside0.mk (blk_below (g := gb237) (o := .cells #[.int .i64 t228, .int .i64 t229, .int .i64 t230, .int .i64 t231, .int .i64 t232, .int .i64 t233, .int .u64 t234, .int .i64 t235] 26 (0, 0)) (by (with_reducible repeat (first | refine blk_drewN ?_ _ | refine blk_drew ?_ | refine blk_alloc ?_ _)); exact BK237.out) hb); have n6_ := Aside0.mk (below_step (by repeat (first | (with_reducible first | exact HB.out | apply below_alloc | apply pw_below_drewN | apply below_drew1 | refine below_set ?_ GE217.out | refine below_set ?_ GE218.out | refine below_set ?_ GE236.out | refine below_set ?_ GE237.out) | exact HB.out)) hb); clear HO240; clear BK217; clear BK218; clear BK236; clear BK237; clear HB; have HO240 := n0_; have HO244 := n1_; have BK217 := n2_; have BK218 := n3_; have BK236 := n4_; have BK237 := n5_; have HB := n6_; clear n0_ n1_ n2_ n3_ n4_ n5_ n6_; (try clear hb); (try clear hb2); (try clear hk); (try clear hi); (try clear ho0)))
  have n0_ := Aside0.mk (Kd.R_drew HO240.out)
  have n1_ := Aside0.mk (Kd.R_drew HO244.out)
  have n2_ := Aside0.mk (blk_drew BK217.out)
  have n3_ := Aside0.mk (blk_drew BK218.out)
  have n4_ := Aside0.mk (blk_drew BK236.out)
  have n5_ := Aside0.mk (blk_drew BK237.out)
  have n6_ := Aside0.mk (below_drew1 HB.out)
  clear HO240
  clear HO244
  clear BK217
  clear BK218
  clear BK236
  clear BK237
  clear HB
  have HO240 := n0_
  have HO244 := n1_
  have BK217 := n2_
  have BK218 := n3_
  have BK236 := n4_
  have BK237 := n5_
  have HB := n6_
  clear n0_ n1_ n2_ n3_ n4_ n5_ n6_
  have hcv46 := own_string (P := Try.prog) Try.underlying30 Try.underlying5 Try.underlying9 (Kd.own_of_R HO240.out)
  have hcv47 := own_string (P := Try.prog) Try.underlying30 Try.underlying5 Try.underlying9 (Kd.own_of_R HO244.out)
  refine start_ (n := 16) (S := fun w' => w'.cell? ⟨gb236, 0, none⟩ = some (.int .i64 t220) ∧ w'.cell? ⟨gb236, 1, none⟩ = some (.int .i64 t221) ∧ w'.cell? ⟨gb236, 2, none⟩ = some (.int .i64 t222) ∧ w'.cell? ⟨gb236, 3, none⟩ = some (.int .i64 t223) ∧ w'.cell? ⟨gb236, 4, none⟩ = some (.int .i64 t224) ∧ w'.cell? ⟨gb236, 5, none⟩ = some (.int .i64 t225) ∧ w'.cell? ⟨gb236, 6, none⟩ = some (.int .u64 t226) ∧ w'.cell? ⟨gb236, 7, none⟩ = some (.int .i64 t227) ∧ w'.cell? ⟨gb237, 0, none⟩ = some (.int .i64 t228) ∧ w'.cell? ⟨gb237, 1, none⟩ = some (.int .i64 t229) ∧ w'.cell? ⟨gb237, 2, none⟩ = some (.int .i64 t230) ∧ w'.cell? ⟨gb237, 3, none⟩ = some (.int .i64 t231) ∧ w'.cell? ⟨gb237, 4, none⟩ = some (.int .i64 t232) ∧ w'.cell? ⟨gb237, 5, none⟩ = some (.int .i64 t233) ∧ w'.cell? ⟨gb237, 6, none⟩ = some (.int .u64 t234) ∧ w'.cell? ⟨gb237, 7, none⟩ = some (.int .i64 t235) ∧ (convert 30 9 v239).run Try.prog w' = .ok (.string (strOfNums t238)) w' ∧ (convert 30 9 v243).run Try.prog w' = .ok (.string (strOfNums t242)) w') (ds := []) #[false, false, false, false, false, false, false, false, false, false, false, false, false, false, false, false] (by kernel_rfl) rfl rfl ⟨(blk_cell BK236.out 0).trans rfl, (blk_cell BK236.out 1).trans rfl, (blk_cell BK236.out 2).trans rfl, (blk_cell BK236.out 3).trans rfl, (blk_cell BK236.out 4).trans rfl, (blk_cell BK236.out 5).trans rfl, (blk_cell BK236.out 6).trans rfl, (blk_cell BK236.out 7).trans rfl, (blk_cell BK237.out 0).trans rfl, (blk_cell BK237.out 1).trans rfl, (blk_cell BK237.out 2).trans rfl, (blk_cell BK237.out 3).trans rfl, (blk_cell BK237.out 4).trans rfl, (blk_cell BK237.out 5).trans rfl, (blk_cell BK237.out 6).trans rfl, (blk_cell BK237.out 7).trans rfl, own_string (P := Try.prog) Try.underlying30 Try.underlying5 Try.underlying9 (Kd.own_of_R HO240.out), own_string (P := Try.prog) Try.underlying30 Try.underlying5 Try.underlying9 (Kd.own_of_R HO244.out)⟩ (fun hHeld => ?_); refine with_tabW tautochronelaw20_EncodeTwo.tab6 tautochronelaw20_EncodeTwo.bits6 (fun HT_ HW_ => ?_)
  generalize w44.drew = w45 at HO240 HO244 BK217 BK218 BK236 BK237 HB hHeld ⊢
  refine pure_ (i := 0) (N := some 27) (v := ?_) (a' := ?_) #[true, false, false, false, false, false, false, false, false, false, false, false, false, false, false, false] rfl rfl (any_of HT_.out (by kernel_rfl)) (fun _ _ _ h => h) (Or.inl ⟨by rfl, ?_⟩) ?_ ?_
  rotate_left
  · intro w'
    go_simp
    with_reducible rfl
  rotate_left
  · simp only [Act.put, List.setIfInBounds_toArray, List.set_cons_zero, List.set_cons_succ, i64_w, i32_w]
    rfl
  refine pure_ (i := 1) (N := some 28) (v := ?_) (a' := ?_) #[true, true, false, false, false, false, false, false, false, false, false, false, false, false, false, false] rfl rfl (any_of HT_.out (by kernel_rfl)) (fun _ _ _ h => h) (Or.inl ⟨by rfl, ?_⟩) ?_ ?_
  rotate_left
  · intro w'
    go_simp
    with_reducible rfl
  rotate_left
  · simp only [Act.put, List.setIfInBounds_toArray, List.set_cons_zero, List.set_cons_succ, i64_w, i32_w]
    rfl
  refine pure_ (i := 2) (N := some 29) (v := ?_) (a' := ?_) #[true, true, true, false, false, false, false, false, false, false, false, false, false, false, false, false] rfl rfl (any_of HT_.out (by kernel_rfl)) (fun _ _ _ h => h) (Or.inl ⟨by rfl, ?_⟩) ?_ ?_
  rotate_left
  · intro w'
    go_simp
    with_reducible rfl
  rotate_left
  · simp only [Act.put, List.setIfInBounds_toArray, List.set_cons_zero, List.set_cons_succ, i64_w, i32_w]
    rfl
  refine pure_ (i := 3) (N := some 30) (v := ?_) (a' := ?_) #[true, true, true, true, false, false, false, false, false, false, false, false, false, false, false, false] rfl rfl (any_of HT_.out (by kernel_rfl)) (fun _ _ _ h => h) (Or.inl ⟨by rfl, ?_⟩) ?_ ?_
  rotate_left
  · intro w'
    go_simp
    with_reducible rfl
  rotate_left
  · simp only [Act.put, List.setIfInBounds_toArray, List.set_cons_zero, List.set_cons_succ, i64_w, i32_w]
    rfl
  refine pure_ (i := 4) (N := some 31) (v := ?_) (a' := ?_) #[true, true, true, true, true, false, false, false, false, false, false, false, false, false, false, false] rfl rfl (any_of HT_.out (by kernel_rfl)) (fun _ _ _ h => h) (Or.inl ⟨by rfl, ?_⟩) ?_ ?_
  rotate_left
  · intro w'
    go_simp
    with_reducible rfl
  rotate_left
  · simp only [Act.put, List.setIfInBounds_toArray, List.set_cons_zero, List.set_cons_succ, i64_w, i32_w]
    rfl
  refine pure_ (i := 5) (N := some 32) (v := ?_) (a' := ?_) #[true, true, true, true, true, true, false, false, false, false, false, false, false, false, false, false] rfl rfl (any_of HT_.out (by kernel_rfl)) (fun _ _ _ h => h) (Or.inl ⟨by rfl, ?_⟩) ?_ ?_
  rotate_left
  · intro w'
    go_simp
    with_reducible rfl
  rotate_left
  · simp only [Act.put, List.setIfInBounds_toArray, List.set_cons_zero, List.set_cons_succ, i64_w, i32_w]
    rfl
  refine take_ (i := 6) (N := some 33) (v := ?_) (a' := ?_) #[true, true, true, true, true, true, true, false, false, false, false, false, false, false, false, false] rfl rfl (take_ofW HT_.out HW_.out (by kernel_rfl)) (fun _ _ _ h => h) (Or.inl ⟨by rfl, ?_⟩) hHeld ?_ ?_
  rotate_left
  · rintro w' ⟨s0, s1, s2, s3, s4, s5, s6, s7, s8, s9, s10, s11, s12, s13, s14, s15, s16, s17⟩
    go_simp
    with_reducible rfl
  rotate_left
  · simp only [Act.put, List.setIfInBounds_toArray, List.set_cons_zero, List.set_cons_succ, i64_w, i32_w]
    rfl
  refine pure_ (i := 7) (N := some 34) (v := ?_) (a' := ?_) #[true, true, true, true, true, true, true, true, false, false, false, false, false, false, false, false] rfl rfl (any_of HT_.out (by kernel_rfl)) (fun _ _ _ h => h) (Or.inl ⟨by rfl, ?_⟩) ?_ ?_
  rotate_left
  · intro w'
    go_simp
    with_reducible rfl
  rotate_left
  · simp only [Act.put, List.setIfInBounds_toArray, List.set_cons_zero, List.set_cons_succ, i64_w, i32_w]
    rfl
  refine take_ (i := 8) (N := some 35) (v := ?_) (a' := ?_) #[true, true, true, true, true, true, true, true, true, false, false, false, false, false, false, false] rfl rfl (take_ofW HT_.out HW_.out (by kernel_rfl)) (fun _ _ _ h => h) (Or.inl ⟨by rfl, ?_⟩) hHeld ?_ ?_
  rotate_left
  · rintro w' ⟨s0, s1, s2, s3, s4, s5, s6, s7, s8, s9, s10, s11, s12, s13, s14, s15, s16, s17⟩
    go_simp
    with_reducible rfl
  rotate_left
  · simp only [Act.put, List.setIfInBounds_toArray, List.set_cons_zero, List.set_cons_succ, i64_w, i32_w]
    rfl
  refine pure_ (i := 9) (N := some 36) (v := ?_) (a' := ?_) #[true, true, true, true, true, true, true, true, true, true, false, false, false, false, false, false] rfl rfl (any_of HT_.out (by kernel_rfl)) (fun _ _ _ h => h) (Or.inl ⟨by rfl, ?_⟩) ?_ ?_
  rotate_left
  · intro w'
    go_simp
    with_reducible rfl
  rotate_left
  · simp only [Act.put, List.setIfInBounds_toArray, List.set_cons_zero, List.set_cons_succ, i64_w, i32_w]
    rfl
  refine take_ (i := 10) (N := some 37) (v := ?_) (a' := ?_) #[true, true, true, true, true, true, true, true, true, true, true, false, false, false, false, false] rfl rfl (take_ofW HT_.out HW_.out (by kernel_rfl)) (fun _ _ _ h => h) (Or.inl ⟨by rfl, ?_⟩) hHeld ?_ ?_
  rotate_left
  · rintro w' ⟨s0, s1, s2, s3, s4, s5, s6, s7, s8, s9, s10, s11, s12, s13, s14, s15, s16, s17⟩
    go_simp
    with_reducible rfl
  rotate_left
  · simp only [Act.put, List.setIfInBounds_toArray, List.set_cons_zero, List.set_cons_succ, i64_w, i32_w]
    rfl
  refine take_ (i := 11) (N := some 38) (v := ?_) (a' := ?_) #[true, true, true, true, true, true, true, true, true, true, true, true, false, false, false, false] rfl rfl (take_ofW HT_.out HW_.out (by kernel_rfl)) (fun _ _ _ h => h) (Or.inl ⟨by rfl, ?_⟩) hHeld ?_ ?_
  rotate_left
  · rintro w' ⟨s0, s1, s2, s3, s4, s5, s6, s7, s8, s9, s10, s11, s12, s13, s14, s15, s16, s17⟩
    go_simp
    with_reducible rfl
  rotate_left
  · simp only [Act.put, List.setIfInBounds_toArray, List.set_cons_zero, List.set_cons_succ, i64_w, i32_w]
    rfl
  refine pure_ (i := 12) (N := some 39) (v := ?_) (a' := ?_) #[true, true, true, true, true, true, true, true, true, true, true, true, true, false, false, false] rfl rfl (any_of HT_.out (by kernel_rfl)) (fun _ _ _ h => h) (Or.inl ⟨by rfl, ?_⟩) ?_ ?_
  rotate_left
  · intro w'
    go_simp
    with_reducible rfl
  rotate_left
  · simp only [Act.put, List.setIfInBounds_toArray, List.set_cons_zero, List.set_cons_succ, i64_w, i32_w]
    rfl
  refine pure_ (i := 13) (N := some 40) (v := ?_) (a' := ?_) #[true, true, true, true, true, true, true, true, true, true, true, true, true, true, false, false] rfl rfl (any_of HT_.out (by kernel_rfl)) (fun _ _ _ h => h) (Or.inl ⟨by rfl, ?_⟩) ?_ ?_
  rotate_left
  · intro w'
    go_simp
    with_reducible rfl
  rotate_left
  · simp only [Act.put, List.setIfInBounds_toArray, List.set_cons_zero, List.set_cons_succ, i64_w, i32_w]
    rfl
  refine pure_ (i := 14) (N := some 41) (v := ?_) (a' := ?_) #[true, true, true, true, true, true, true, true, true, true, true, true, true, true, true, false] rfl rfl (any_of HT_.out (by kernel_rfl)) (fun _ _ _ h => h) (Or.inl ⟨by rfl, ?_⟩) ?_ ?_
  rotate_left
  · intro w'
    go_simp
    with_reducible rfl
  rotate_left
  · simp only [Act.put, List.setIfInBounds_toArray, List.set_cons_zero, List.set_cons_succ, i64_w, i32_w]
    rfl
  refine pure_ (i := 15) (N := some 4) (v := ?_) (a' := ?_) #[true, true, true, true, true, true, true, true, true, true, true, true, true, true, true, true] rfl rfl (any_of HT_.out (by kernel_rfl)) (fun _ _ _ h => h) (Or.inl ⟨by rfl, ?_⟩) ?_ ?_
  rotate_left
  · intro w'
    go_simp
    with_reducible rfl
  rotate_left
  · simp only [Act.put, List.setIfInBounds_toArray, List.set_cons_zero, List.set_cons_succ, i64_w, i32_w]
    rfl
  refine done_ (done_of HT_.out (by kernel_rfl)) ?_
  try go_wp2
  go_ret
  exact ⟨by first | rfl | (simp [errW_none, errW_some] <;> rfl) | (simp [*, errW_none, errW_some] <;> rfl), by repeat (first | (with_reducible first | exact HB.out | apply below_alloc | apply pw_below_drewN | apply below_drew1 | refine below_set ?_ GE217.out | refine below_set ?_ GE218.out | refine below_set ?_ GE236.out | refine below_set ?_ GE237.out) | exact HB.out)⟩

end Go.Proofs.Ytnnedajhphkphaa.PEncodeTwo
