/-
For EncodeBare: what the Go functions that it reaches compute, as plain Lean functions, and the walks that show it; conditions as each theorem states them. (Written by a program of this session on the kit's print.)
-/
-- PRINTED by print.py (a twelfth state) out of the translation. Not trusted: Lean checks it.
import Derived.Test.YtnnedajhphkphaaPEncodeBarex0
import Derived.Test.YtnnedajhphkphaaPEncodeBarex1
import Derived.Test.YtnnedajhphkphaaPEncodeBarex4
import Derived.Test.YtnnedajhphkphaaPEncodeBarex5
import Derived.Test.YtnnedajhphkphaaPEncodeBarex6
import Derived.Test.YtnnedajhphkphaaPEncodeBarex7
import Derived.Test.YtnnedajhphkphaaPEncodeBarex8
import Derived.Test.YtnnedajhphkphaaPEncodeBarex9
namespace Go.Proofs.Ytnnedajhphkphaa.PEncodeBare
open Go.RowKit Go.Proofs.YtnnedajhphkphaaW.PrintWords Go.Proofs.YtnnedajhphkphaaW.PrintLast Go.Proofs.YtnnedajhphkphaaW.PrintMore
attribute [local go_sem] max2_int min2_int max_two min_two max_three min_three max_four min_four   -- for this text's walks alone
set_option linter.unusedVariables false
set_option linter.unusedSimpArgs false

attribute [local go_sem high] eqA26
/-! ### tautochronelaw20_EncodeBare: function 3 -/
def tautochronelaw20_EncodeBare.f (k : Nat) (a0_0 : Int) (a0_1 : Int) (a0_2 : Int) (a0_3 : Int) (a0_4 : Int) (a0_5 : Int) (a0_6 : Int) (a0_7 : Int) : Option (Bool) := (tautochronelaw20_awake.f k).bind fun t241 => (if t241 = true then ((tautochronelaw20_Make.f k a0_0 a0_1 a0_2 a0_3 a0_4 a0_5 a0_6 a0_7).bind fun bt242 => ((encode_Bare.f k a0_0 a0_1 a0_2 a0_3 a0_4 a0_5 a0_6 a0_7).bind fun bt251 => ((tautochronelaw20_bare.f k a0_0 a0_1 a0_2 a0_3 a0_4 a0_5 a0_6 a0_7).bind fun bt259 => (if (bt251.1 == bt259.1 && (bt251.2.1 == bt259.2.1 && (bt251.2.2.1 == bt259.2.2.1 && (bt251.2.2.2.1 == bt259.2.2.2.1 && (bt251.2.2.2.2.1 == bt259.2.2.2.2.1 && (bt251.2.2.2.2.2.1 == bt259.2.2.2.2.2.1 && (bt251.2.2.2.2.2.2.1 == bt259.2.2.2.2.2.2.1 && (bt251.2.2.2.2.2.2.2 == bt259.2.2.2.2.2.2.2)))))))) = true then ((encode_May.f k a0_0 a0_1 a0_2 a0_3 a0_4 a0_5 a0_6 a0_7).bind fun t267 => ((tautochronelaw20_may.f k a0_0 a0_1 a0_2 a0_3 a0_4 a0_5 a0_6 a0_7).bind fun t268 => (if (t267 == t268) = true then ((encode_May.f k bt242.1 bt242.2.1 bt242.2.2.1 bt242.2.2.2.1 bt242.2.2.2.2.1 bt242.2.2.2.2.2.1 bt242.2.2.2.2.2.2.1 bt242.2.2.2.2.2.2.2).bind fun t269 => (if t269 = true then ((tautochronelaw20_may.f k bt242.1 bt242.2.1 bt242.2.2.1 bt242.2.2.2.1 bt242.2.2.2.2.1 bt242.2.2.2.2.2.1 bt242.2.2.2.2.2.2.1 bt242.2.2.2.2.2.2.2).bind fun t270 => (if t270 = true then ((encode_Bare.f k bt242.1 bt242.2.1 bt242.2.2.1 bt242.2.2.2.1 bt242.2.2.2.2.1 bt242.2.2.2.2.2.1 bt242.2.2.2.2.2.2.1 bt242.2.2.2.2.2.2.2).bind fun bt271 => (some (bt271.1 == bt242.1 && (bt271.2.1 == bt242.2.1 && (bt271.2.2.1 == bt242.2.2.1 && (bt271.2.2.2.1 == bt242.2.2.2.1 && (bt271.2.2.2.2.1 == bt242.2.2.2.2.1 && (bt271.2.2.2.2.2.1 == bt242.2.2.2.2.2.1 && (bt271.2.2.2.2.2.2.1 == bt242.2.2.2.2.2.2.1 && (bt271.2.2.2.2.2.2.2 == bt242.2.2.2.2.2.2.2)))))))))) else (some false))) else (some false))) else (some false)))) else (some false))))) else (some false))
theorem tautochronelaw20_EncodeBare.mono : ∀ a0 a1 a2 a3 a4 a5 a6 a7 k, LeO (tautochronelaw20_EncodeBare.f k a0 a1 a2 a3 a4 a5 a6 a7) (tautochronelaw20_EncodeBare.f (k + 1) a0 a1 a2 a3 a4 a5 a6 a7) := by
  intro a0 a1 a2 a3 a4 a5 a6 a7 k
  unfold tautochronelaw20_EncodeBare.f
  repeat' first
      | (with_reducible exact encode_Bare.mono _ _ _ _ _ _ _ _ _)
      | (with_reducible exact encode_May.mono _ _ _ _ _ _ _ _ _)
      | (with_reducible exact tautochronelaw20_Make.mono _ _ _ _ _ _ _ _ _)
      | (with_reducible exact tautochronelaw20_awake.mono _)
      | (with_reducible exact tautochronelaw20_bare.mono _ _ _ _ _ _ _ _ _)
      | (with_reducible exact tautochronelaw20_may.mono _ _ _ _ _ _ _ _ _)
      | (with_reducible exact LeO.refl _)
      | (with_reducible exact LeO.none _)
      | (with_reducible refine LeO.ite ?_ ?_)
      | (with_reducible refine LeO.bind ?_ (fun _ => ?_))
      | exact encode_Bare.mono _ _ _ _ _ _ _ _ _
      | exact encode_May.mono _ _ _ _ _ _ _ _ _
      | exact tautochronelaw20_Make.mono _ _ _ _ _ _ _ _ _
      | exact tautochronelaw20_awake.mono _
      | exact tautochronelaw20_bare.mono _ _ _ _ _ _ _ _ _
      | exact tautochronelaw20_may.mono _ _ _ _ _ _ _ _ _
      | exact LeO.none _
      | refine LeO.ite ?_ ?_
      | refine LeO.bind ?_ (fun _ => ?_)
def tautochronelaw20_EncodeBare.T4 : Bool × List (List Nat × List Nat) := (true, [([], []), ([0], [0]), ([], []), ([2, 1], [2]), ([1, 3], [1, 3]), ([4, 3], [4]), ([5], [5]), ([6, 5, 5], [5, 6]), ([5], [5]), ([8, 7, 5], [5, 8]), ([7, 9, 5], [5, 7, 9]), ([5, 10], [5, 10]), ([11, 9], [11]), ([12], [12]), ([13, 12, 12], [12, 13]), ([12, 14], [12, 14]), ([15, 14], [15]), ([16], [16]), ([17, 16, 16], [16, 17]), ([16, 18], [16, 18]), ([19, 18], [19]), ([20], [20]), ([21, 20, 20], [20, 21]), ([20], [20]), ([22, 23, 20], [20, 22, 23]), ([20, 24], [20, 24]), ([25, 22, 0, 1, 2, 3, 4, 5, 6, 7, 8, 9, 10, 11, 12, 13, 14, 15, 16, 17, 18, 19, 20, 21, 22, 23, 24, 25], [25])])
def tautochronelaw20_EncodeBare.B4 : List Nat := [0, 1, 0, 7, 15, 31, 63, 127, 63, 511, 1023, 2047, 4095, 8191, 16383, 32767, 65535, 131071, 262143, 524287, 1048575, 2097151, 4194303, 2097151, 16777215, 33554431, 67108863]
theorem tautochronelaw20_EncodeBare.tab4 : rtab .any (opsOf Try.f3 4) = tautochronelaw20_EncodeBare.T4 := by kernel_rfl
theorem tautochronelaw20_EncodeBare.bits4 : waitsOk tautochronelaw20_EncodeBare.T4.2 tautochronelaw20_EncodeBare.B4 = true := by kernel_rfl
set_option maxHeartbeats 8000000 in
set_option maxRecDepth 100000 in
theorem tautochronelaw20_EncodeBare.calls (k : Nat) (a0_0 : Int) (a0_1 : Int) (a0_2 : Int) (a0_3 : Int) (a0_4 : Int) (a0_5 : Int) (a0_6 : Int) (a0_7 : Int) (r : Bool) (w : World) (hr_ : r = true) (h : tautochronelaw20_EncodeBare.f k a0_0 a0_1 a0_2 a0_3 a0_4 a0_5 a0_6 a0_7 = some r) :
    Calls Try.prog 3 #[.agg #[.int .i64 a0_0, .int .i64 a0_1, .int .i64 a0_2, .int .i64 a0_3, .int .i64 a0_4, .int .i64 a0_5, .int .u64 a0_6, .int .i64 a0_7]] w fun e w' => e = .returned (.bool r) ∧ Below w.heap.size w w' := by
  have hu26 := Try.underlying26
  have HB := Aside0.mk (Below.refl w.heap.size w)
  have H : ((tautochronelaw20_awake.f k).bind fun t241 => (if t241 = true then ((tautochronelaw20_Make.f k a0_0 a0_1 a0_2 a0_3 a0_4 a0_5 a0_6 a0_7).bind fun bt242 => ((encode_Bare.f k a0_0 a0_1 a0_2 a0_3 a0_4 a0_5 a0_6 a0_7).bind fun bt251 => ((tautochronelaw20_bare.f k a0_0 a0_1 a0_2 a0_3 a0_4 a0_5 a0_6 a0_7).bind fun bt259 => (if (bt251.1 == bt259.1 && (bt251.2.1 == bt259.2.1 && (bt251.2.2.1 == bt259.2.2.1 && (bt251.2.2.2.1 == bt259.2.2.2.1 && (bt251.2.2.2.2.1 == bt259.2.2.2.2.1 && (bt251.2.2.2.2.2.1 == bt259.2.2.2.2.2.1 && (bt251.2.2.2.2.2.2.1 == bt259.2.2.2.2.2.2.1 && (bt251.2.2.2.2.2.2.2 == bt259.2.2.2.2.2.2.2)))))))) = true then ((encode_May.f k a0_0 a0_1 a0_2 a0_3 a0_4 a0_5 a0_6 a0_7).bind fun t267 => ((tautochronelaw20_may.f k a0_0 a0_1 a0_2 a0_3 a0_4 a0_5 a0_6 a0_7).bind fun t268 => (if (t267 == t268) = true then ((encode_May.f k bt242.1 bt242.2.1 bt242.2.2.1 bt242.2.2.2.1 bt242.2.2.2.2.1 bt242.2.2.2.2.2.1 bt242.2.2.2.2.2.2.1 bt242.2.2.2.2.2.2.2).bind fun t269 => (if t269 = true then ((tautochronelaw20_may.f k bt242.1 bt242.2.1 bt242.2.2.1 bt242.2.2.2.1 bt242.2.2.2.2.1 bt242.2.2.2.2.2.1 bt242.2.2.2.2.2.2.1 bt242.2.2.2.2.2.2.2).bind fun t270 => (if t270 = true then ((encode_Bare.f k bt242.1 bt242.2.1 bt242.2.2.1 bt242.2.2.2.1 bt242.2.2.2.2.1 bt242.2.2.2.2.2.1 bt242.2.2.2.2.2.2.1 bt242.2.2.2.2.2.2.2).bind fun bt271 => (some (bt271.1 == bt242.1 && (bt271.2.1 == bt242.2.1 && (bt271.2.2.1 == bt242.2.2.1 && (bt271.2.2.2.1 == bt242.2.2.2.1 && (bt271.2.2.2.2.1 == bt242.2.2.2.2.1 && (bt271.2.2.2.2.2.1 == bt242.2.2.2.2.2.1 && (bt271.2.2.2.2.2.2.1 == bt242.2.2.2.2.2.2.1 && (bt271.2.2.2.2.2.2.2 == bt242.2.2.2.2.2.2.2)))))))))) else (some false))) else (some false))) else (some false)))) else (some false))))) else (some false))) = some r := h
  clear h
  replace H := Option.bind_eq_some_iff.mp H
  obtain ⟨t241, A20, H⟩ := H
  replace H : (if t241 = true then ((tautochronelaw20_Make.f k a0_0 a0_1 a0_2 a0_3 a0_4 a0_5 a0_6 a0_7).bind fun bt242 => ((encode_Bare.f k a0_0 a0_1 a0_2 a0_3 a0_4 a0_5 a0_6 a0_7).bind fun bt251 => ((tautochronelaw20_bare.f k a0_0 a0_1 a0_2 a0_3 a0_4 a0_5 a0_6 a0_7).bind fun bt259 => (if (bt251.1 == bt259.1 && (bt251.2.1 == bt259.2.1 && (bt251.2.2.1 == bt259.2.2.1 && (bt251.2.2.2.1 == bt259.2.2.2.1 && (bt251.2.2.2.2.1 == bt259.2.2.2.2.1 && (bt251.2.2.2.2.2.1 == bt259.2.2.2.2.2.1 && (bt251.2.2.2.2.2.2.1 == bt259.2.2.2.2.2.2.1 && (bt251.2.2.2.2.2.2.2 == bt259.2.2.2.2.2.2.2)))))))) = true then ((encode_May.f k a0_0 a0_1 a0_2 a0_3 a0_4 a0_5 a0_6 a0_7).bind fun t267 => ((tautochronelaw20_may.f k a0_0 a0_1 a0_2 a0_3 a0_4 a0_5 a0_6 a0_7).bind fun t268 => (if (t267 == t268) = true then ((encode_May.f k bt242.1 bt242.2.1 bt242.2.2.1 bt242.2.2.2.1 bt242.2.2.2.2.1 bt242.2.2.2.2.2.1 bt242.2.2.2.2.2.2.1 bt242.2.2.2.2.2.2.2).bind fun t269 => (if t269 = true then ((tautochronelaw20_may.f k bt242.1 bt242.2.1 bt242.2.2.1 bt242.2.2.2.1 bt242.2.2.2.2.1 bt242.2.2.2.2.2.1 bt242.2.2.2.2.2.2.1 bt242.2.2.2.2.2.2.2).bind fun t270 => (if t270 = true then ((encode_Bare.f k bt242.1 bt242.2.1 bt242.2.2.1 bt242.2.2.2.1 bt242.2.2.2.2.1 bt242.2.2.2.2.2.1 bt242.2.2.2.2.2.2.1 bt242.2.2.2.2.2.2.2).bind fun bt271 => (some (bt271.1 == bt242.1 && (bt271.2.1 == bt242.2.1 && (bt271.2.2.1 == bt242.2.2.1 && (bt271.2.2.2.1 == bt242.2.2.2.1 && (bt271.2.2.2.2.1 == bt242.2.2.2.2.1 && (bt271.2.2.2.2.2.1 == bt242.2.2.2.2.2.1 && (bt271.2.2.2.2.2.2.1 == bt242.2.2.2.2.2.2.1 && (bt271.2.2.2.2.2.2.2 == bt242.2.2.2.2.2.2.2)))))))))) else (some false))) else (some false))) else (some false)))) else (some false))))) else (some false)) = some r := H
  have A2 := Aside0.mk A20
  clear A20
  by_cases c3 : t241 = true
  rotate_left
  · replace c3 := Bool.eq_false_iff.mpr c3
    subst c3
    have H1 : (some false) = some r := by rw [if_neg (show ¬ (false = true) by decide)] at H; exact H
    clear H
    have H := H1
    clear H1
    exact absurd ((Option.some.inj H).trans hr_) (by decide)
  subst c3
  have H1 : ((tautochronelaw20_Make.f k a0_0 a0_1 a0_2 a0_3 a0_4 a0_5 a0_6 a0_7).bind fun bt242 => ((encode_Bare.f k a0_0 a0_1 a0_2 a0_3 a0_4 a0_5 a0_6 a0_7).bind fun bt251 => ((tautochronelaw20_bare.f k a0_0 a0_1 a0_2 a0_3 a0_4 a0_5 a0_6 a0_7).bind fun bt259 => (if (bt251.1 == bt259.1 && (bt251.2.1 == bt259.2.1 && (bt251.2.2.1 == bt259.2.2.1 && (bt251.2.2.2.1 == bt259.2.2.2.1 && (bt251.2.2.2.2.1 == bt259.2.2.2.2.1 && (bt251.2.2.2.2.2.1 == bt259.2.2.2.2.2.1 && (bt251.2.2.2.2.2.2.1 == bt259.2.2.2.2.2.2.1 && (bt251.2.2.2.2.2.2.2 == bt259.2.2.2.2.2.2.2)))))))) = true then ((encode_May.f k a0_0 a0_1 a0_2 a0_3 a0_4 a0_5 a0_6 a0_7).bind fun t267 => ((tautochronelaw20_may.f k a0_0 a0_1 a0_2 a0_3 a0_4 a0_5 a0_6 a0_7).bind fun t268 => (if (t267 == t268) = true then ((encode_May.f k bt242.1 bt242.2.1 bt242.2.2.1 bt242.2.2.2.1 bt242.2.2.2.2.1 bt242.2.2.2.2.2.1 bt242.2.2.2.2.2.2.1 bt242.2.2.2.2.2.2.2).bind fun t269 => (if t269 = true then ((tautochronelaw20_may.f k bt242.1 bt242.2.1 bt242.2.2.1 bt242.2.2.2.1 bt242.2.2.2.2.1 bt242.2.2.2.2.2.1 bt242.2.2.2.2.2.2.1 bt242.2.2.2.2.2.2.2).bind fun t270 => (if t270 = true then ((encode_Bare.f k bt242.1 bt242.2.1 bt242.2.2.1 bt242.2.2.2.1 bt242.2.2.2.2.1 bt242.2.2.2.2.2.1 bt242.2.2.2.2.2.2.1 bt242.2.2.2.2.2.2.2).bind fun bt271 => (some (bt271.1 == bt242.1 && (bt271.2.1 == bt242.2.1 && (bt271.2.2.1 == bt242.2.2.1 && (bt271.2.2.2.1 == bt242.2.2.2.1 && (bt271.2.2.2.2.1 == bt242.2.2.2.2.1 && (bt271.2.2.2.2.2.1 == bt242.2.2.2.2.2.1 && (bt271.2.2.2.2.2.2.1 == bt242.2.2.2.2.2.2.1 && (bt271.2.2.2.2.2.2.2 == bt242.2.2.2.2.2.2.2)))))))))) else (some false))) else (some false))) else (some false)))) else (some false))))) = some r := by rw [if_pos rfl] at H; exact H
  clear H
  have H := H1
  clear H1
  replace H := Option.bind_eq_some_iff.mp H
  obtain ⟨⟨t242, t243, t244, t245, t246, t247, t248, t249⟩, A40, H⟩ := H
  replace H : ((encode_Bare.f k a0_0 a0_1 a0_2 a0_3 a0_4 a0_5 a0_6 a0_7).bind fun bt251 => ((tautochronelaw20_bare.f k a0_0 a0_1 a0_2 a0_3 a0_4 a0_5 a0_6 a0_7).bind fun bt259 => (if (bt251.1 == bt259.1 && (bt251.2.1 == bt259.2.1 && (bt251.2.2.1 == bt259.2.2.1 && (bt251.2.2.2.1 == bt259.2.2.2.1 && (bt251.2.2.2.2.1 == bt259.2.2.2.2.1 && (bt251.2.2.2.2.2.1 == bt259.2.2.2.2.2.1 && (bt251.2.2.2.2.2.2.1 == bt259.2.2.2.2.2.2.1 && (bt251.2.2.2.2.2.2.2 == bt259.2.2.2.2.2.2.2)))))))) = true then ((encode_May.f k a0_0 a0_1 a0_2 a0_3 a0_4 a0_5 a0_6 a0_7).bind fun t267 => ((tautochronelaw20_may.f k a0_0 a0_1 a0_2 a0_3 a0_4 a0_5 a0_6 a0_7).bind fun t268 => (if (t267 == t268) = true then ((encode_May.f k t242 t243 t244 t245 t246 t247 t248 t249).bind fun t269 => (if t269 = true then ((tautochronelaw20_may.f k t242 t243 t244 t245 t246 t247 t248 t249).bind fun t270 => (if t270 = true then ((encode_Bare.f k t242 t243 t244 t245 t246 t247 t248 t249).bind fun bt271 => (some (bt271.1 == t242 && (bt271.2.1 == t243 && (bt271.2.2.1 == t244 && (bt271.2.2.2.1 == t245 && (bt271.2.2.2.2.1 == t246 && (bt271.2.2.2.2.2.1 == t247 && (bt271.2.2.2.2.2.2.1 == t248 && (bt271.2.2.2.2.2.2.2 == t249)))))))))) else (some false))) else (some false))) else (some false)))) else (some false)))) = some r := H
  have A4 := Aside0.mk A40
  clear A40
  replace H := Option.bind_eq_some_iff.mp H
  obtain ⟨⟨t251, t252, t253, t254, t255, t256, t257, t258⟩, A50, H⟩ := H
  replace H : ((tautochronelaw20_bare.f k a0_0 a0_1 a0_2 a0_3 a0_4 a0_5 a0_6 a0_7).bind fun bt259 => (if (t251 == bt259.1 && (t252 == bt259.2.1 && (t253 == bt259.2.2.1 && (t254 == bt259.2.2.2.1 && (t255 == bt259.2.2.2.2.1 && (t256 == bt259.2.2.2.2.2.1 && (t257 == bt259.2.2.2.2.2.2.1 && (t258 == bt259.2.2.2.2.2.2.2)))))))) = true then ((encode_May.f k a0_0 a0_1 a0_2 a0_3 a0_4 a0_5 a0_6 a0_7).bind fun t267 => ((tautochronelaw20_may.f k a0_0 a0_1 a0_2 a0_3 a0_4 a0_5 a0_6 a0_7).bind fun t268 => (if (t267 == t268) = true then ((encode_May.f k t242 t243 t244 t245 t246 t247 t248 t249).bind fun t269 => (if t269 = true then ((tautochronelaw20_may.f k t242 t243 t244 t245 t246 t247 t248 t249).bind fun t270 => (if t270 = true then ((encode_Bare.f k t242 t243 t244 t245 t246 t247 t248 t249).bind fun bt271 => (some (bt271.1 == t242 && (bt271.2.1 == t243 && (bt271.2.2.1 == t244 && (bt271.2.2.2.1 == t245 && (bt271.2.2.2.2.1 == t246 && (bt271.2.2.2.2.2.1 == t247 && (bt271.2.2.2.2.2.2.1 == t248 && (bt271.2.2.2.2.2.2.2 == t249)))))))))) else (some false))) else (some false))) else (some false)))) else (some false))) = some r := H
  have A5 := Aside0.mk A50
  clear A50
  replace H := Option.bind_eq_some_iff.mp H
  obtain ⟨⟨t259, t260, t261, t262, t263, t264, t265, t266⟩, A60, H⟩ := H
  replace H : (if (t251 == t259 && (t252 == t260 && (t253 == t261 && (t254 == t262 && (t255 == t263 && (t256 == t264 && (t257 == t265 && (t258 == t266)))))))) = true then ((encode_May.f k a0_0 a0_1 a0_2 a0_3 a0_4 a0_5 a0_6 a0_7).bind fun t267 => ((tautochronelaw20_may.f k a0_0 a0_1 a0_2 a0_3 a0_4 a0_5 a0_6 a0_7).bind fun t268 => (if (t267 == t268) = true then ((encode_May.f k t242 t243 t244 t245 t246 t247 t248 t249).bind fun t269 => (if t269 = true then ((tautochronelaw20_may.f k t242 t243 t244 t245 t246 t247 t248 t249).bind fun t270 => (if t270 = true then ((encode_Bare.f k t242 t243 t244 t245 t246 t247 t248 t249).bind fun bt271 => (some (bt271.1 == t242 && (bt271.2.1 == t243 && (bt271.2.2.1 == t244 && (bt271.2.2.2.1 == t245 && (bt271.2.2.2.2.1 == t246 && (bt271.2.2.2.2.2.1 == t247 && (bt271.2.2.2.2.2.2.1 == t248 && (bt271.2.2.2.2.2.2.2 == t249)))))))))) else (some false))) else (some false))) else (some false)))) else (some false)) = some r := H
  have A6 := Aside0.mk A60
  clear A60
  by_cases c7 : (t251 == t259 && (t252 == t260 && (t253 == t261 && (t254 == t262 && (t255 == t263 && (t256 == t264 && (t257 == t265 && (t258 == t266)))))))) = true
  rotate_left
  · rw [if_neg c7] at H
    have c7b0 : (t251 == t259 && (t252 == t260 && (t253 == t261 && (t254 == t262 && (t255 == t263 && (t256 == t264 && (t257 == t265 && (t258 == t266)))))))) = false := by simpa using c7
    (try (have c7b1 : decide (t251 = t259 && (t252 == t260 && (t253 == t261 && (t254 == t262 && (t255 == t263 && (t256 == t264 && (t257 == t265 && (t258 == t266)))))))) = false := by simpa using c7))
    (try (have c7b2 : (t251 == t259 && (t252 == t260 && (t253 == t261 && (t254 == t262 && (t255 == t263 && (t256 == t264 && (t257 == t265 && (t258 == t266)))))))) = false := by simpa using c7))
    (try (have c7b3 : ¬ (t251 = t259 && (t252 == t260 && (t253 == t261 && (t254 == t262 && (t255 == t263 && (t256 == t264 && (t257 == t265 && (t258 == t266)))))))) := by simpa using c7))
    clear c7
    exact absurd ((Option.some.inj H).trans hr_) (by decide)
  rw [if_pos c7] at H
  have c7b0 : (t251 == t259 && (t252 == t260 && (t253 == t261 && (t254 == t262 && (t255 == t263 && (t256 == t264 && (t257 == t265 && (t258 == t266)))))))) = true := c7
  (try (have c7b1 : decide (t251 = t259 && (t252 == t260 && (t253 == t261 && (t254 == t262 && (t255 == t263 && (t256 == t264 && (t257 == t265 && (t258 == t266)))))))) = true := by simpa using c7))
  (try (have c7b2 : (t251 == t259 && (t252 == t260 && (t253 == t261 && (t254 == t262 && (t255 == t263 && (t256 == t264 && (t257 == t265 && (t258 == t266)))))))) = true := by simpa using c7))
  clear c7
  replace H := Option.bind_eq_some_iff.mp H
  obtain ⟨t267, A80, H⟩ := H
  replace H : ((tautochronelaw20_may.f k a0_0 a0_1 a0_2 a0_3 a0_4 a0_5 a0_6 a0_7).bind fun t268 => (if (t267 == t268) = true then ((encode_May.f k t242 t243 t244 t245 t246 t247 t248 t249).bind fun t269 => (if t269 = true then ((tautochronelaw20_may.f k t242 t243 t244 t245 t246 t247 t248 t249).bind fun t270 => (if t270 = true then ((encode_Bare.f k t242 t243 t244 t245 t246 t247 t248 t249).bind fun bt271 => (some (bt271.1 == t242 && (bt271.2.1 == t243 && (bt271.2.2.1 == t244 && (bt271.2.2.2.1 == t245 && (bt271.2.2.2.2.1 == t246 && (bt271.2.2.2.2.2.1 == t247 && (bt271.2.2.2.2.2.2.1 == t248 && (bt271.2.2.2.2.2.2.2 == t249)))))))))) else (some false))) else (some false))) else (some false))) = some r := H
  have A8 := Aside0.mk A80
  clear A80
  replace H := Option.bind_eq_some_iff.mp H
  obtain ⟨t268, A90, H⟩ := H
  replace H : (if (t267 == t268) = true then ((encode_May.f k t242 t243 t244 t245 t246 t247 t248 t249).bind fun t269 => (if t269 = true then ((tautochronelaw20_may.f k t242 t243 t244 t245 t246 t247 t248 t249).bind fun t270 => (if t270 = true then ((encode_Bare.f k t242 t243 t244 t245 t246 t247 t248 t249).bind fun bt271 => (some (bt271.1 == t242 && (bt271.2.1 == t243 && (bt271.2.2.1 == t244 && (bt271.2.2.2.1 == t245 && (bt271.2.2.2.2.1 == t246 && (bt271.2.2.2.2.2.1 == t247 && (bt271.2.2.2.2.2.2.1 == t248 && (bt271.2.2.2.2.2.2.2 == t249)))))))))) else (some false))) else (some false))) else (some false)) = some r := H
  have A9 := Aside0.mk A90
  clear A90
  by_cases c10 : (t267 == t268) = true
  rotate_left
  · rw [if_neg c10] at H
    have c10b0 : (t267 == t268) = false := by simpa using c10
    (try (have c10b1 : decide (t267 = t268) = false := by simpa using c10))
    (try (have c10b2 : (t267 == t268) = false := by simpa using c10))
    (try (have c10b3 : ¬ (t267 = t268) := by simpa using c10))
    clear c10
    exact absurd ((Option.some.inj H).trans hr_) (by decide)
  rw [if_pos c10] at H
  have c10b0 : (t267 == t268) = true := c10
  (try (have c10b1 : decide (t267 = t268) = true := by simpa using c10))
  (try (have c10b2 : (t267 == t268) = true := by simpa using c10))
  clear c10
  replace H := Option.bind_eq_some_iff.mp H
  obtain ⟨t269, A110, H⟩ := H
  replace H : (if t269 = true then ((tautochronelaw20_may.f k t242 t243 t244 t245 t246 t247 t248 t249).bind fun t270 => (if t270 = true then ((encode_Bare.f k t242 t243 t244 t245 t246 t247 t248 t249).bind fun bt271 => (some (bt271.1 == t242 && (bt271.2.1 == t243 && (bt271.2.2.1 == t244 && (bt271.2.2.2.1 == t245 && (bt271.2.2.2.2.1 == t246 && (bt271.2.2.2.2.2.1 == t247 && (bt271.2.2.2.2.2.2.1 == t248 && (bt271.2.2.2.2.2.2.2 == t249)))))))))) else (some false))) else (some false)) = some r := H
  have A11 := Aside0.mk A110
  clear A110
  by_cases c12 : t269 = true
  rotate_left
  · replace c12 := Bool.eq_false_iff.mpr c12
    subst c12
    have H1 : (some false) = some r := by rw [if_neg (show ¬ (false = true) by decide)] at H; exact H
    clear H
    have H := H1
    clear H1
    exact absurd ((Option.some.inj H).trans hr_) (by decide)
  subst c12
  have H1 : ((tautochronelaw20_may.f k t242 t243 t244 t245 t246 t247 t248 t249).bind fun t270 => (if t270 = true then ((encode_Bare.f k t242 t243 t244 t245 t246 t247 t248 t249).bind fun bt271 => (some (bt271.1 == t242 && (bt271.2.1 == t243 && (bt271.2.2.1 == t244 && (bt271.2.2.2.1 == t245 && (bt271.2.2.2.2.1 == t246 && (bt271.2.2.2.2.2.1 == t247 && (bt271.2.2.2.2.2.2.1 == t248 && (bt271.2.2.2.2.2.2.2 == t249)))))))))) else (some false))) = some r := by rw [if_pos rfl] at H; exact H
  clear H
  have H := H1
  clear H1
  replace H := Option.bind_eq_some_iff.mp H
  obtain ⟨t270, A130, H⟩ := H
  replace H : (if t270 = true then ((encode_Bare.f k t242 t243 t244 t245 t246 t247 t248 t249).bind fun bt271 => (some (bt271.1 == t242 && (bt271.2.1 == t243 && (bt271.2.2.1 == t244 && (bt271.2.2.2.1 == t245 && (bt271.2.2.2.2.1 == t246 && (bt271.2.2.2.2.2.1 == t247 && (bt271.2.2.2.2.2.2.1 == t248 && (bt271.2.2.2.2.2.2.2 == t249)))))))))) else (some false)) = some r := H
  have A13 := Aside0.mk A130
  clear A130
  by_cases c14 : t270 = true
  rotate_left
  · replace c14 := Bool.eq_false_iff.mpr c14
    subst c14
    have H1 : (some false) = some r := by rw [if_neg (show ¬ (false = true) by decide)] at H; exact H
    clear H
    have H := H1
    clear H1
    exact absurd ((Option.some.inj H).trans hr_) (by decide)
  subst c14
  have H1 : ((encode_Bare.f k t242 t243 t244 t245 t246 t247 t248 t249).bind fun bt271 => (some (bt271.1 == t242 && (bt271.2.1 == t243 && (bt271.2.2.1 == t244 && (bt271.2.2.2.1 == t245 && (bt271.2.2.2.2.1 == t246 && (bt271.2.2.2.2.2.1 == t247 && (bt271.2.2.2.2.2.2.1 == t248 && (bt271.2.2.2.2.2.2.2 == t249)))))))))) = some r := by rw [if_pos rfl] at H; exact H
  clear H
  have H := H1
  clear H1
  replace H := Option.bind_eq_some_iff.mp H
  obtain ⟨⟨t271, t272, t273, t274, t275, t276, t277, t278⟩, A150, H⟩ := H
  replace H : (some (t271 == t242 && (t272 == t243 && (t273 == t244 && (t274 == t245 && (t275 == t246 && (t276 == t247 && (t277 == t248 && (t278 == t249))))))))) = some r := H
  have A15 := Aside0.mk A150
  clear A150
  obtain rfl := Option.some.inj H
  go_enter Try.func3, Try.ntmps3
  try go_wp2_with (first | ((with_reducible refine gate_dst (N := 1) rfl ?_); refine box_event ?hg (N := 1) ?hd (cs := #[.int .i64 a0_0, .int .i64 a0_1, .int .i64 a0_2, .int .i64 a0_3, .int .i64 a0_4, .int .i64 a0_5, .int .u64 a0_6, .int .i64 a0_7]) (t := 26) ?hr ?_; (case hd => rfl); (case hg => rfl); (case hr => first | (go_simp; done) | (go_simp; rfl)); intro gb240 hg w16 hbox hb; have n0_ := Aside0.mk (below_step (by repeat (first | (with_reducible first | exact HB.out | apply below_alloc | apply pw_below_drewN | apply below_drew1) | exact HB.out)) hb); have n1_ := Aside0.mk (hbox); have n2_ := Aside0.mk ((by rw [hg]; exact (below_size (by repeat (first | (with_reducible first | exact HB.out | apply below_alloc | apply pw_below_drewN | apply below_drew1) | exact HB.out))) : w.heap.size ≤ gb240)); have n3_ := Aside0.mk ((by rw [hg]; exact (below_size (by repeat (first | (with_reducible first | exact HB.out | apply below_alloc | apply pw_below_drewN | apply below_drew1) | exact HB.out))) : w.heap.size ≤ gb240)); clear HB; have HB := n0_; have BK240 := n1_; have GW240 := n2_; have GE240 := n3_; clear n0_ n1_ n2_ n3_; clear hb hbox hg) | ((with_reducible refine gate_callee (f := 8) rfl ?_); refine goesL_ (some 4) rfl rfl Try.func8 (by kernel_rfl) rfl #[] rfl (by (try simp only [List.map_toArray, List.map_cons, List.map_nil]); first | done | rfl | (simp only [List.length_drop, List.length_take]; rfl)) ?_; (with_reducible refine (tautochronelaw20_awake.calls k  true _ A2.out).mono ?_); rintro e w17 ⟨rfl, hb⟩; refine ⟨_, rfl, ?_⟩; have n0_ := Aside0.mk (blk_below (g := gb240) (o := .cells #[.int .i64 a0_0, .int .i64 a0_1, .int .i64 a0_2, .int .i64 a0_3, .int .i64 a0_4, .int .i64 a0_5, .int .u64 a0_6, .int .i64 a0_7] 26 (0, 0)) (by (with_reducible repeat (first | refine blk_drewN ?_ _ | refine blk_drew ?_ | refine blk_alloc ?_ _)); exact BK240.out) hb); have n1_ := Aside0.mk (below_step (by repeat (first | (with_reducible first | exact HB.out | apply below_alloc | apply pw_below_drewN | apply below_drew1 | refine below_set ?_ GE240.out) | exact HB.out)) hb); clear BK240; clear HB; have BK240 := n0_; have HB := n1_; clear n0_ n1_; (try clear hb); (try clear hb2); (try clear hk); (try clear hi); have hcz18_0 : w17.cell? ⟨gb240, 0, none⟩ = some (.int .i64 a0_0) := (blk_cell BK240.out 0).trans rfl; have hcz18_1 : w17.cell? ⟨gb240, 1, none⟩ = some (.int .i64 a0_1) := (blk_cell BK240.out 1).trans rfl; have hcz18_2 : w17.cell? ⟨gb240, 2, none⟩ = some (.int .i64 a0_2) := (blk_cell BK240.out 2).trans rfl; have hcz18_3 : w17.cell? ⟨gb240, 3, none⟩ = some (.int .i64 a0_3) := (blk_cell BK240.out 3).trans rfl; have hcz18_4 : w17.cell? ⟨gb240, 4, none⟩ = some (.int .i64 a0_4) := (blk_cell BK240.out 4).trans rfl; have hcz18_5 : w17.cell? ⟨gb240, 5, none⟩ = some (.int .i64 a0_5) := (blk_cell BK240.out 5).trans rfl; have hcz18_6 : w17.cell? ⟨gb240, 6, none⟩ = some (.int .u64 a0_6) := (blk_cell BK240.out 6).trans rfl; have hcz18_7 : w17.cell? ⟨gb240, 7, none⟩ = some (.int .i64 a0_7) := (blk_cell BK240.out 7).trans rfl; have hfz18_0 := blk_frozen BK240.out 0; have hfz18_1 := blk_frozen BK240.out 1; have hfz18_2 := blk_frozen BK240.out 2; have hfz18_3 := blk_frozen BK240.out 3; have hfz18_4 := blk_frozen BK240.out 4; have hfz18_5 := blk_frozen BK240.out 5; have hfz18_6 := blk_frozen BK240.out 6; have hfz18_7 := blk_frozen BK240.out 7) | ((with_reducible refine gate_callee (f := 9) rfl ?_); refine goesL_ (some 7) rfl rfl Try.func9 (by kernel_rfl) rfl #[.agg #[.int .i64 a0_0, .int .i64 a0_1, .int .i64 a0_2, .int .i64 a0_3, .int .i64 a0_4, .int .i64 a0_5, .int .u64 a0_6, .int .i64 a0_7]] rfl (by (try simp only [List.map_toArray, List.map_cons, List.map_nil]); first | done | rfl | (simp only [List.length_drop, List.length_take]; rfl)) ?_; (with_reducible refine (tautochronelaw20_Make.calls k a0_0 a0_1 a0_2 a0_3 a0_4 a0_5 a0_6 a0_7 t242 t243 t244 t245 t246 t247 t248 t249 _ A4.out).mono ?_); rintro e w19 ⟨rfl, hb⟩; refine ⟨_, rfl, ?_⟩; have n0_ := Aside0.mk (blk_below (g := gb240) (o := .cells #[.int .i64 a0_0, .int .i64 a0_1, .int .i64 a0_2, .int .i64 a0_3, .int .i64 a0_4, .int .i64 a0_5, .int .u64 a0_6, .int .i64 a0_7] 26 (0, 0)) (by (with_reducible repeat (first | refine blk_drewN ?_ _ | refine blk_drew ?_ | refine blk_alloc ?_ _)); exact BK240.out) hb); have n1_ := Aside0.mk (below_step (by repeat (first | (with_reducible first | exact HB.out | apply below_alloc | apply pw_below_drewN | apply below_drew1 | refine below_set ?_ GE240.out) | exact HB.out)) hb); clear BK240; clear HB; have BK240 := n0_; have HB := n1_; clear n0_ n1_; (try clear hb); (try clear hb2); (try clear hk); (try clear hi)) | ((with_reducible refine gate_dst (N := 3) rfl ?_); refine box_event ?hg (N := 3) ?hd (cs := #[.int .i64 0, .int .i64 0, .int .i64 0, .int .i64 0, .int .i64 0, .int .i64 0, .int .u64 0, .int .i64 0]) (t := 26) ?hr ?_; (case hd => rfl); (case hg => rfl); (case hr => first | (go_simp; done) | (go_simp; rfl)); intro gb250 hg w20 hbox hb; have n0_ := Aside0.mk (blk_below (g := gb240) (o := .cells #[.int .i64 a0_0, .int .i64 a0_1, .int .i64 a0_2, .int .i64 a0_3, .int .i64 a0_4, .int .i64 a0_5, .int .u64 a0_6, .int .i64 a0_7] 26 (0, 0)) (by (with_reducible repeat (first | refine blk_drewN ?_ _ | refine blk_drew ?_ | refine blk_alloc ?_ _)); exact BK240.out) hb); have n1_ := Aside0.mk (below_step (by repeat (first | (with_reducible first | exact HB.out | apply below_alloc | apply pw_below_drewN | apply below_drew1 | refine below_set ?_ GE240.out) | exact HB.out)) hb); have n2_ := Aside0.mk (hbox); have n3_ := Aside0.mk ((by rw [hg]; exact (below_size (by repeat (first | (with_reducible first | exact HB.out | apply below_alloc | apply pw_below_drewN | apply below_drew1 | refine below_set ?_ GE240.out) | exact HB.out))) : w.heap.size ≤ gb250)); have n4_ := Aside0.mk ((by rw [hg]; exact (below_size (by repeat (first | (with_reducible first | exact HB.out | apply below_alloc | apply pw_below_drewN | apply below_drew1 | refine below_set ?_ GE240.out) | exact HB.out))) : w.heap.size ≤ gb250)); have n5_ := Aside0.mk ((by rw [hg]; exact Nat.ne_of_lt (blk_lt (g := gb240) (o := .cells #[.int .i64 a0_0, .int .i64 a0_1, .int .i64 a0_2, .int .i64 a0_3, .int .i64 a0_4, .int .i64 a0_5, .int .u64 a0_6, .int .i64 a0_7] 26 (0, 0)) (by (with_reducible repeat (first | refine blk_drewN ?_ _ | refine blk_drew ?_ | refine blk_alloc ?_ _)); exact BK240.out)) : gb240 ≠ gb250)); have n6_ := Aside0.mk ((by rw [hg]; exact Nat.ne_of_gt (blk_lt (g := gb240) (o := .cells #[.int .i64 a0_0, .int .i64 a0_1, .int .i64 a0_2, .int .i64 a0_3, .int .i64 a0_4, .int .i64 a0_5, .int .u64 a0_6, .int .i64 a0_7] 26 (0, 0)) (by (with_reducible repeat (first | refine blk_drewN ?_ _ | refine blk_drew ?_ | refine blk_alloc ?_ _)); exact BK240.out)) : gb250 ≠ gb240)); clear BK240; clear HB; have BK240 := n0_; have HB := n1_; have BK250 := n2_; have GW250 := n3_; have GE250 := n4_; have NB240_250 := n5_; have NB250_240 := n6_; clear n0_ n1_ n2_ n3_ n4_ n5_ n6_; clear hb hbox hg; have hnb21 := NB250_240.out; have hnc21 := NB240_250.out; have hcz22_0 : w20.cell? ⟨gb250, 0, none⟩ = some (.int .i64 0) := (blk_cell BK250.out 0).trans rfl; have hcz22_1 : w20.cell? ⟨gb250, 1, none⟩ = some (.int .i64 0) := (blk_cell BK250.out 1).trans rfl; have hcz22_2 : w20.cell? ⟨gb250, 2, none⟩ = some (.int .i64 0) := (blk_cell BK250.out 2).trans rfl; have hcz22_3 : w20.cell? ⟨gb250, 3, none⟩ = some (.int .i64 0) := (blk_cell BK250.out 3).trans rfl; have hcz22_4 : w20.cell? ⟨gb250, 4, none⟩ = some (.int .i64 0) := (blk_cell BK250.out 4).trans rfl; have hcz22_5 : w20.cell? ⟨gb250, 5, none⟩ = some (.int .i64 0) := (blk_cell BK250.out 5).trans rfl; have hcz22_6 : w20.cell? ⟨gb250, 6, none⟩ = some (.int .u64 0) := (blk_cell BK250.out 6).trans rfl; have hcz22_7 : w20.cell? ⟨gb250, 7, none⟩ = some (.int .i64 0) := (blk_cell BK250.out 7).trans rfl; have hfz22_0 := blk_frozen BK250.out 0; have hfz22_1 := blk_frozen BK250.out 1; have hfz22_2 := blk_frozen BK250.out 2; have hfz22_3 := blk_frozen BK250.out 3; have hfz22_4 := blk_frozen BK250.out 4; have hfz22_5 := blk_frozen BK250.out 5; have hfz22_6 := blk_frozen BK250.out 6; have hfz22_7 := blk_frozen BK250.out 7))
  have n0_ : Aside0 (((((((((w20.setCell ⟨gb250, 0, none⟩ (.int .i64 t242)).setCell ⟨gb250, 1, none⟩ (.int .i64 t243)).setCell ⟨gb250, 2, none⟩ (.int .i64 t244)).setCell ⟨gb250, 3, none⟩ (.int .i64 t245)).setCell ⟨gb250, 4, none⟩ (.int .i64 t246)).setCell ⟨gb250, 5, none⟩ (.int .i64 t247)).setCell ⟨gb250, 6, none⟩ (.int .u64 t248)).setCell ⟨gb250, 7, none⟩ (.int .i64 t249)).heap[gb240]? = some (.cells #[.int .i64 a0_0, .int .i64 a0_1, .int .i64 a0_2, .int .i64 a0_3, .int .i64 a0_4, .int .i64 a0_5, .int .u64 a0_6, .int .i64 a0_7] 26 (0, 0))) := ⟨by (with_reducible repeat (first | refine blk_drewN ?_ _ | refine blk_drew ?_ | refine blk_alloc ?_ _)); refine blk_far ?_ NB240_250.out _; (with_reducible repeat (first | refine blk_drewN ?_ _ | refine blk_drew ?_ | refine blk_alloc ?_ _)); refine blk_far ?_ NB240_250.out _; (with_reducible repeat (first | refine blk_drewN ?_ _ | refine blk_drew ?_ | refine blk_alloc ?_ _)); refine blk_far ?_ NB240_250.out _; (with_reducible repeat (first | refine blk_drewN ?_ _ | refine blk_drew ?_ | refine blk_alloc ?_ _)); refine blk_far ?_ NB240_250.out _; (with_reducible repeat (first | refine blk_drewN ?_ _ | refine blk_drew ?_ | refine blk_alloc ?_ _)); refine blk_far ?_ NB240_250.out _; (with_reducible repeat (first | refine blk_drewN ?_ _ | refine blk_drew ?_ | refine blk_alloc ?_ _)); refine blk_far ?_ NB240_250.out _; (with_reducible repeat (first | refine blk_drewN ?_ _ | refine blk_drew ?_ | refine blk_alloc ?_ _)); refine blk_far ?_ NB240_250.out _; (with_reducible repeat (first | refine blk_drewN ?_ _ | refine blk_drew ?_ | refine blk_alloc ?_ _)); refine blk_far ?_ NB240_250.out _; (with_reducible repeat (first | refine blk_drewN ?_ _ | refine blk_drew ?_ | refine blk_alloc ?_ _)); exact BK240.out⟩
  have n1_ : Aside0 (((((((((w20.setCell ⟨gb250, 0, none⟩ (.int .i64 t242)).setCell ⟨gb250, 1, none⟩ (.int .i64 t243)).setCell ⟨gb250, 2, none⟩ (.int .i64 t244)).setCell ⟨gb250, 3, none⟩ (.int .i64 t245)).setCell ⟨gb250, 4, none⟩ (.int .i64 t246)).setCell ⟨gb250, 5, none⟩ (.int .i64 t247)).setCell ⟨gb250, 6, none⟩ (.int .u64 t248)).setCell ⟨gb250, 7, none⟩ (.int .i64 t249)).heap[gb250]? = some (.cells #[.int .i64 t242, .int .i64 t243, .int .i64 t244, .int .i64 t245, .int .i64 t246, .int .i64 t247, .int .u64 t248, .int .i64 t249] 26 (0, 0))) := ⟨by (with_reducible repeat (first | refine blk_drewN ?_ _ | refine blk_drew ?_ | refine blk_alloc ?_ _)); refine blk_put (cs := #[.int .i64 t242, .int .i64 t243, .int .i64 t244, .int .i64 t245, .int .i64 t246, .int .i64 t247, .int .u64 t248, .int .i64 0]) ?_ 7 _ rfl; (with_reducible repeat (first | refine blk_drewN ?_ _ | refine blk_drew ?_ | refine blk_alloc ?_ _)); refine blk_put (cs := #[.int .i64 t242, .int .i64 t243, .int .i64 t244, .int .i64 t245, .int .i64 t246, .int .i64 t247, .int .u64 0, .int .i64 0]) ?_ 6 _ rfl; (with_reducible repeat (first | refine blk_drewN ?_ _ | refine blk_drew ?_ | refine blk_alloc ?_ _)); refine blk_put (cs := #[.int .i64 t242, .int .i64 t243, .int .i64 t244, .int .i64 t245, .int .i64 t246, .int .i64 0, .int .u64 0, .int .i64 0]) ?_ 5 _ rfl; (with_reducible repeat (first | refine blk_drewN ?_ _ | refine blk_drew ?_ | refine blk_alloc ?_ _)); refine blk_put (cs := #[.int .i64 t242, .int .i64 t243, .int .i64 t244, .int .i64 t245, .int .i64 0, .int .i64 0, .int .u64 0, .int .i64 0]) ?_ 4 _ rfl; (with_reducible repeat (first | refine blk_drewN ?_ _ | refine blk_drew ?_ | refine blk_alloc ?_ _)); refine blk_put (cs := #[.int .i64 t242, .int .i64 t243, .int .i64 t244, .int .i64 0, .int .i64 0, .int .i64 0, .int .u64 0, .int .i64 0]) ?_ 3 _ rfl; (with_reducible repeat (first | refine blk_drewN ?_ _ | refine blk_drew ?_ | refine blk_alloc ?_ _)); refine blk_put (cs := #[.int .i64 t242, .int .i64 t243, .int .i64 0, .int .i64 0, .int .i64 0, .int .i64 0, .int .u64 0, .int .i64 0]) ?_ 2 _ rfl; (with_reducible repeat (first | refine blk_drewN ?_ _ | refine blk_drew ?_ | refine blk_alloc ?_ _)); refine blk_put (cs := #[.int .i64 t242, .int .i64 0, .int .i64 0, .int .i64 0, .int .i64 0, .int .i64 0, .int .u64 0, .int .i64 0]) ?_ 1 _ rfl; (with_reducible repeat (first | refine blk_drewN ?_ _ | refine blk_drew ?_ | refine blk_alloc ?_ _)); refine blk_put (cs := #[.int .i64 0, .int .i64 0, .int .i64 0, .int .i64 0, .int .i64 0, .int .i64 0, .int .u64 0, .int .i64 0]) ?_ 0 _ rfl; (with_reducible repeat (first | refine blk_drewN ?_ _ | refine blk_drew ?_ | refine blk_alloc ?_ _)); exact BK250.out⟩
  have n2_ : Aside0 (Below w.heap.size w ((((((((w20.setCell ⟨gb250, 0, none⟩ (.int .i64 t242)).setCell ⟨gb250, 1, none⟩ (.int .i64 t243)).setCell ⟨gb250, 2, none⟩ (.int .i64 t244)).setCell ⟨gb250, 3, none⟩ (.int .i64 t245)).setCell ⟨gb250, 4, none⟩ (.int .i64 t246)).setCell ⟨gb250, 5, none⟩ (.int .i64 t247)).setCell ⟨gb250, 6, none⟩ (.int .u64 t248)).setCell ⟨gb250, 7, none⟩ (.int .i64 t249))) := ⟨by repeat (first | (with_reducible first | exact HB.out | apply below_alloc | apply pw_below_drewN | apply below_drew1 | refine below_set ?_ GE240.out | refine below_set ?_ GE250.out) | exact HB.out)⟩
  (try clear BK240)
  (try clear BK250)
  (try clear HB)
  generalize ((((((((w20.setCell ⟨gb250, 0, none⟩ (.int .i64 t242)).setCell ⟨gb250, 1, none⟩ (.int .i64 t243)).setCell ⟨gb250, 2, none⟩ (.int .i64 t244)).setCell ⟨gb250, 3, none⟩ (.int .i64 t245)).setCell ⟨gb250, 4, none⟩ (.int .i64 t246)).setCell ⟨gb250, 5, none⟩ (.int .i64 t247)).setCell ⟨gb250, 6, none⟩ (.int .u64 t248)).setCell ⟨gb250, 7, none⟩ (.int .i64 t249)) = w23 at n0_ n1_ n2_ ⊢
  have BK240 := n0_
  have BK250 := n1_
  have HB := n2_
  clear n0_ n1_ n2_
  have n0_ := Aside0.mk (blk_drew BK240.out)
  have n1_ := Aside0.mk (blk_drew BK250.out)
  have n2_ := Aside0.mk (below_drew1 HB.out)
  clear BK240
  clear BK250
  clear HB
  have BK240 := n0_
  have BK250 := n1_
  have HB := n2_
  clear n0_ n1_ n2_
  refine start_ (n := 27) (S := fun w' => w'.cell? ⟨gb240, 0, none⟩ = some (.int .i64 a0_0) ∧ w'.cell? ⟨gb240, 1, none⟩ = some (.int .i64 a0_1) ∧ w'.cell? ⟨gb240, 2, none⟩ = some (.int .i64 a0_2) ∧ w'.cell? ⟨gb240, 3, none⟩ = some (.int .i64 a0_3) ∧ w'.cell? ⟨gb240, 4, none⟩ = some (.int .i64 a0_4) ∧ w'.cell? ⟨gb240, 5, none⟩ = some (.int .i64 a0_5) ∧ w'.cell? ⟨gb240, 6, none⟩ = some (.int .u64 a0_6) ∧ w'.cell? ⟨gb240, 7, none⟩ = some (.int .i64 a0_7) ∧ w'.cell? ⟨gb250, 0, none⟩ = some (.int .i64 t242) ∧ w'.cell? ⟨gb250, 1, none⟩ = some (.int .i64 t243) ∧ w'.cell? ⟨gb250, 2, none⟩ = some (.int .i64 t244) ∧ w'.cell? ⟨gb250, 3, none⟩ = some (.int .i64 t245) ∧ w'.cell? ⟨gb250, 4, none⟩ = some (.int .i64 t246) ∧ w'.cell? ⟨gb250, 5, none⟩ = some (.int .i64 t247) ∧ w'.cell? ⟨gb250, 6, none⟩ = some (.int .u64 t248) ∧ w'.cell? ⟨gb250, 7, none⟩ = some (.int .i64 t249)) (ds := []) #[false, false, false, false, false, false, false, false, false, false, false, false, false, false, false, false, false, false, false, false, false, false, false, false, false, false, false] (by kernel_rfl) rfl rfl ⟨(blk_cell BK240.out 0).trans rfl, (blk_cell BK240.out 1).trans rfl, (blk_cell BK240.out 2).trans rfl, (blk_cell BK240.out 3).trans rfl, (blk_cell BK240.out 4).trans rfl, (blk_cell BK240.out 5).trans rfl, (blk_cell BK240.out 6).trans rfl, (blk_cell BK240.out 7).trans rfl, (blk_cell BK250.out 0).trans rfl, (blk_cell BK250.out 1).trans rfl, (blk_cell BK250.out 2).trans rfl, (blk_cell BK250.out 3).trans rfl, (blk_cell BK250.out 4).trans rfl, (blk_cell BK250.out 5).trans rfl, (blk_cell BK250.out 6).trans rfl, (blk_cell BK250.out 7).trans rfl⟩ (fun hHeld => ?_); refine with_tabW tautochronelaw20_EncodeBare.tab4 tautochronelaw20_EncodeBare.bits4 (fun HT_ HW_ => ?_)
  generalize w23.drew = w24 at BK240 BK250 HB hHeld ⊢
  refine take_ (i := 0) (N := some 8) (v := ?_) (a' := ?_) #[true, false, false, false, false, false, false, false, false, false, false, false, false, false, false, false, false, false, false, false, false, false, false, false, false, false, false] rfl rfl (take_ofW HT_.out HW_.out (by kernel_rfl)) (fun _ _ _ h => h) (Or.inl ⟨by rfl, ?_⟩) hHeld ?_ ?_
  rotate_left
  · rintro w' ⟨s0, s1, s2, s3, s4, s5, s6, s7, s8, s9, s10, s11, s12, s13, s14, s15⟩
    go_simp
    with_reducible rfl
  rotate_left
  · simp only [Act.put, List.setIfInBounds_toArray, List.set_cons_zero, List.set_cons_succ, i64_w, i32_w]
    rfl
  refine take_ (i := 2) (N := some 10) (v := ?_) (a' := ?_) #[true, false, true, false, false, false, false, false, false, false, false, false, false, false, false, false, false, false, false, false, false, false, false, false, false, false, false] rfl rfl (take_ofW HT_.out HW_.out (by kernel_rfl)) (fun _ _ _ h => h) (Or.inl ⟨by rfl, ?_⟩) hHeld ?_ ?_
  rotate_left
  · rintro w' ⟨s0, s1, s2, s3, s4, s5, s6, s7, s8, s9, s10, s11, s12, s13, s14, s15⟩
    go_simp
    with_reducible rfl
  rotate_left
  · simp only [Act.put, List.setIfInBounds_toArray, List.set_cons_zero, List.set_cons_succ, i64_w, i32_w]
    rfl
  refine one_ (i := 1) (N := some 9) #[true, true, true, false, false, false, false, false, false, false, false, false, false, false, false, false, false, false, false, false, false, false, false, false, false, false, false] rfl rfl (one_of HT_.out (by kernel_rfl)) (by decide) (fun K hK => ?_)
  refine goes_ Try.func10 (by kernel_rfl) rfl #[.agg #[.int .i64 a0_0, .int .i64 a0_1, .int .i64 a0_2, .int .i64 a0_3, .int .i64 a0_4, .int .i64 a0_5, .int .u64 a0_6, .int .i64 a0_7]] (by rfl) rfl rfl (by (try simp only [List.map_toArray, List.map_cons, List.map_nil]); first | done | rfl | (simp only [List.length_drop, List.length_take]; rfl)) ?_
  with_reducible refine (encode_Bare.calls k a0_0 a0_1 a0_2 a0_3 a0_4 a0_5 a0_6 a0_7 t251 t252 t253 t254 t255 t256 t257 t258 _ A5.out).mono ?_
  rintro e w25 ⟨rfl, hb⟩
  refine ⟨_, rfl, ?_⟩
  have n0_ := Aside0.mk (blk_below (g := gb240) (o := .cells #[.int .i64 a0_0, .int .i64 a0_1, .int .i64 a0_2, .int .i64 a0_3, .int .i64 a0_4, .int .i64 a0_5, .int .u64 a0_6, .int .i64 a0_7] 26 (0, 0)) (by (with_reducible repeat (first | refine blk_drewN ?_ _ | refine blk_drew ?_ | refine blk_alloc ?_ _)); exact BK240.out) hb)
  have n1_ := Aside0.mk (blk_below (g := gb250) (o := .cells #[.int .i64 t242, .int .i64 t243, .int .i64 t244, .int .i64 t245, .int .i64 t246, .int .i64 t247, .int .u64 t248, .int .i64 t249] 26 (0, 0)) (by (with_reducible repeat (first | refine blk_drewN ?_ _ | refine blk_drew ?_ | refine blk_alloc ?_ _)); exact BK250.out) hb)
  have n2_ := Aside0.mk (below_step (by repeat (first | (with_reducible first | exact HB.out | apply below_alloc | apply pw_below_drewN | apply below_drew1 | refine below_set ?_ GE240.out | refine below_set ?_ GE250.out) | exact HB.out)) hb)
  clear BK240
  clear BK250
  clear HB
  have BK240 := n0_
  have BK250 := n1_
  have HB := n2_
  clear n0_ n1_ n2_
  (try clear hb)
  (try clear hb2)
  (try clear hk)
  (try clear hi)
  refine hK.out _ _ ⟨(blk_cell BK240.out 0).trans rfl, (blk_cell BK240.out 1).trans rfl, (blk_cell BK240.out 2).trans rfl, (blk_cell BK240.out 3).trans rfl, (blk_cell BK240.out 4).trans rfl, (blk_cell BK240.out 5).trans rfl, (blk_cell BK240.out 6).trans rfl, (blk_cell BK240.out 7).trans rfl, (blk_cell BK250.out 0).trans rfl, (blk_cell BK250.out 1).trans rfl, (blk_cell BK250.out 2).trans rfl, (blk_cell BK250.out 3).trans rfl, (blk_cell BK250.out 4).trans rfl, (blk_cell BK250.out 5).trans rfl, (blk_cell BK250.out 6).trans rfl, (blk_cell BK250.out 7).trans rfl⟩ (fun hHeld => ?_)
  clear hK K
  refine norm_ (a' := ?_) ?_ ?_
  rotate_left
  · show Act.put _ (some 9) _ = _
    simp only [Act.put, List.setIfInBounds_toArray, List.set_cons_zero, List.set_cons_succ, i64_w, i32_w]
    rfl
  refine one_ (i := 3) (N := some 11) #[true, true, true, true, false, false, false, false, false, false, false, false, false, false, false, false, false, false, false, false, false, false, false, false, false, false, false] rfl rfl (one_of HT_.out (by kernel_rfl)) (by decide) (fun K hK => ?_)
  refine goes_ Try.func11 (by kernel_rfl) rfl #[.agg #[.int .i64 a0_0, .int .i64 a0_1, .int .i64 a0_2, .int .i64 a0_3, .int .i64 a0_4, .int .i64 a0_5, .int .u64 a0_6, .int .i64 a0_7]] (by rfl) rfl rfl (by (try simp only [List.map_toArray, List.map_cons, List.map_nil]); first | done | rfl | (simp only [List.length_drop, List.length_take]; rfl)) ?_
  with_reducible refine (tautochronelaw20_bare.calls k a0_0 a0_1 a0_2 a0_3 a0_4 a0_5 a0_6 a0_7 t259 t260 t261 t262 t263 t264 t265 t266 _ A6.out).mono ?_
  rintro e w26 ⟨rfl, hb⟩
  refine ⟨_, rfl, ?_⟩
  have n0_ := Aside0.mk (blk_below (g := gb240) (o := .cells #[.int .i64 a0_0, .int .i64 a0_1, .int .i64 a0_2, .int .i64 a0_3, .int .i64 a0_4, .int .i64 a0_5, .int .u64 a0_6, .int .i64 a0_7] 26 (0, 0)) (by (with_reducible repeat (first | refine blk_drewN ?_ _ | refine blk_drew ?_ | refine blk_alloc ?_ _)); exact BK240.out) hb)
  have n1_ := Aside0.mk (blk_below (g := gb250) (o := .cells #[.int .i64 t242, .int .i64 t243, .int .i64 t244, .int .i64 t245, .int .i64 t246, .int .i64 t247, .int .u64 t248, .int .i64 t249] 26 (0, 0)) (by (with_reducible repeat (first | refine blk_drewN ?_ _ | refine blk_drew ?_ | refine blk_alloc ?_ _)); exact BK250.out) hb)
  have n2_ := Aside0.mk (below_step (by repeat (first | (with_reducible first | exact HB.out | apply below_alloc | apply pw_below_drewN | apply below_drew1 | refine below_set ?_ GE240.out | refine below_set ?_ GE250.out) | exact HB.out)) hb)
  clear BK240
  clear BK250
  clear HB
  have BK240 := n0_
  have BK250 := n1_
  have HB := n2_
  clear n0_ n1_ n2_
  (try clear hb)
  (try clear hb2)
  (try clear hk)
  (try clear hi)
  refine hK.out _ _ ⟨(blk_cell BK240.out 0).trans rfl, (blk_cell BK240.out 1).trans rfl, (blk_cell BK240.out 2).trans rfl, (blk_cell BK240.out 3).trans rfl, (blk_cell BK240.out 4).trans rfl, (blk_cell BK240.out 5).trans rfl, (blk_cell BK240.out 6).trans rfl, (blk_cell BK240.out 7).trans rfl, (blk_cell BK250.out 0).trans rfl, (blk_cell BK250.out 1).trans rfl, (blk_cell BK250.out 2).trans rfl, (blk_cell BK250.out 3).trans rfl, (blk_cell BK250.out 4).trans rfl, (blk_cell BK250.out 5).trans rfl, (blk_cell BK250.out 6).trans rfl, (blk_cell BK250.out 7).trans rfl⟩ (fun hHeld => ?_)
  clear hK K
  refine norm_ (a' := ?_) ?_ ?_
  rotate_left
  · show Act.put _ (some 11) _ = _
    simp only [Act.put, List.setIfInBounds_toArray, List.set_cons_zero, List.set_cons_succ, i64_w, i32_w]
    rfl
  refine pure_ (i := 4) (N := some 12) (v := ?_) (a' := ?_) #[true, true, true, true, true, false, false, false, false, false, false, false, false, false, false, false, false, false, false, false, false, false, false, false, false, false, false] rfl rfl (any_of HT_.out (by kernel_rfl)) (fun _ _ _ h => h) (Or.inl ⟨by rfl, ?_⟩) ?_ ?_
  rotate_left
  · intro w'
    go_simp
    with_reducible rfl
  rotate_left
  · simp only [Act.put, List.setIfInBounds_toArray, List.set_cons_zero, List.set_cons_succ, i64_w, i32_w]
    rfl
  refine pure_ (i := 5) (N := some 13) (v := ?_) (a' := ?_) #[true, true, true, true, true, true, false, false, false, false, false, false, false, false, false, false, false, false, false, false, false, false, false, false, false, false, false] rfl rfl (any_of HT_.out (by kernel_rfl)) (fun _ _ _ h => h) (Or.inl ⟨by rfl, ?_⟩) ?_ ?_
  rotate_left
  · intro w'
    go_simp
    with_reducible rfl
  rotate_left
  · simp only [Act.put, List.setIfInBounds_toArray, List.set_cons_zero, List.set_cons_succ, i64_w, i32_w]
    rfl
  refine take_ (i := 6) (N := some 14) (v := ?_) (a' := ?_) #[true, true, true, true, true, true, true, false, false, false, false, false, false, false, false, false, false, false, false, false, false, false, false, false, false, false, false] rfl rfl (take_ofW HT_.out HW_.out (by kernel_rfl)) (fun _ _ _ h => h) (Or.inl ⟨by rfl, ?_⟩) hHeld ?_ ?_
  rotate_left
  · rintro w' ⟨s0, s1, s2, s3, s4, s5, s6, s7, s8, s9, s10, s11, s12, s13, s14, s15⟩
    go_simp
    with_reducible rfl
  rotate_left
  · simp only [Act.put, List.setIfInBounds_toArray, List.set_cons_zero, List.set_cons_succ, i64_w, i32_w]
    rfl
  refine take_ (i := 8) (N := some 16) (v := ?_) (a' := ?_) #[true, true, true, true, true, true, true, false, true, false, false, false, false, false, false, false, false, false, false, false, false, false, false, false, false, false, false] rfl rfl (take_ofW HT_.out HW_.out (by kernel_rfl)) (fun _ _ _ h => h) (Or.inl ⟨by rfl, ?_⟩) hHeld ?_ ?_
  rotate_left
  · rintro w' ⟨s0, s1, s2, s3, s4, s5, s6, s7, s8, s9, s10, s11, s12, s13, s14, s15⟩
    go_simp
    with_reducible rfl
  rotate_left
  · simp only [Act.put, List.setIfInBounds_toArray, List.set_cons_zero, List.set_cons_succ, i64_w, i32_w]
    rfl
  refine one_ (i := 7) (N := some 15) #[true, true, true, true, true, true, true, true, true, false, false, false, false, false, false, false, false, false, false, false, false, false, false, false, false, false, false] rfl rfl (one_of HT_.out (by kernel_rfl)) (by decide) (fun K hK => ?_)
  refine goes_ Try.func12 (by kernel_rfl) rfl #[.agg #[.int .i64 a0_0, .int .i64 a0_1, .int .i64 a0_2, .int .i64 a0_3, .int .i64 a0_4, .int .i64 a0_5, .int .u64 a0_6, .int .i64 a0_7]] (by rfl) rfl rfl (by (try simp only [List.map_toArray, List.map_cons, List.map_nil]); first | done | rfl | (simp only [List.length_drop, List.length_take]; rfl)) ?_
  with_reducible refine (encode_May.calls k a0_0 a0_1 a0_2 a0_3 a0_4 a0_5 a0_6 a0_7 t267 _ A8.out).mono ?_
  rintro e w27 ⟨rfl, hb⟩
  refine ⟨_, rfl, ?_⟩
  have n0_ := Aside0.mk (blk_below (g := gb240) (o := .cells #[.int .i64 a0_0, .int .i64 a0_1, .int .i64 a0_2, .int .i64 a0_3, .int .i64 a0_4, .int .i64 a0_5, .int .u64 a0_6, .int .i64 a0_7] 26 (0, 0)) (by (with_reducible repeat (first | refine blk_drewN ?_ _ | refine blk_drew ?_ | refine blk_alloc ?_ _)); exact BK240.out) hb)
  have n1_ := Aside0.mk (blk_below (g := gb250) (o := .cells #[.int .i64 t242, .int .i64 t243, .int .i64 t244, .int .i64 t245, .int .i64 t246, .int .i64 t247, .int .u64 t248, .int .i64 t249] 26 (0, 0)) (by (with_reducible repeat (first | refine blk_drewN ?_ _ | refine blk_drew ?_ | refine blk_alloc ?_ _)); exact BK250.out) hb)
  have n2_ := Aside0.mk (below_step (by repeat (first | (with_reducible first | exact HB.out | apply below_alloc | apply pw_below_drewN | apply below_drew1 | refine below_set ?_ GE240.out | refine below_set ?_ GE250.out) | exact HB.out)) hb)
  clear BK240
  clear BK250
  clear HB
  have BK240 := n0_
  have BK250 := n1_
  have HB := n2_
  clear n0_ n1_ n2_
  (try clear hb)
  (try clear hb2)
  (try clear hk)
  (try clear hi)
  refine hK.out _ _ ⟨(blk_cell BK240.out 0).trans rfl, (blk_cell BK240.out 1).trans rfl, (blk_cell BK240.out 2).trans rfl, (blk_cell BK240.out 3).trans rfl, (blk_cell BK240.out 4).trans rfl, (blk_cell BK240.out 5).trans rfl, (blk_cell BK240.out 6).trans rfl, (blk_cell BK240.out 7).trans rfl, (blk_cell BK250.out 0).trans rfl, (blk_cell BK250.out 1).trans rfl, (blk_cell BK250.out 2).trans rfl, (blk_cell BK250.out 3).trans rfl, (blk_cell BK250.out 4).trans rfl, (blk_cell BK250.out 5).trans rfl, (blk_cell BK250.out 6).trans rfl, (blk_cell BK250.out 7).trans rfl⟩ (fun hHeld => ?_)
  clear hK K
  refine norm_ (a' := ?_) ?_ ?_
  rotate_left
  · show Act.put _ (some 15) _ = _
    simp only [Act.put, List.setIfInBounds_toArray, List.set_cons_zero, List.set_cons_succ, i64_w, i32_w]
    rfl
  refine one_ (i := 9) (N := some 17) #[true, true, true, true, true, true, true, true, true, true, false, false, false, false, false, false, false, false, false, false, false, false, false, false, false, false, false] rfl rfl (one_of HT_.out (by kernel_rfl)) (by decide) (fun K hK => ?_)
  refine goes_ Try.func13 (by kernel_rfl) rfl #[.agg #[.int .i64 a0_0, .int .i64 a0_1, .int .i64 a0_2, .int .i64 a0_3, .int .i64 a0_4, .int .i64 a0_5, .int .u64 a0_6, .int .i64 a0_7]] (by rfl) rfl rfl (by (try simp only [List.map_toArray, List.map_cons, List.map_nil]); first | done | rfl | (simp only [List.length_drop, List.length_take]; rfl)) ?_
  with_reducible refine (tautochronelaw20_may.calls k a0_0 a0_1 a0_2 a0_3 a0_4 a0_5 a0_6 a0_7 t268 _ A9.out).mono ?_
  rintro e w28 ⟨rfl, hb⟩
  refine ⟨_, rfl, ?_⟩
  have n0_ := Aside0.mk (blk_below (g := gb240) (o := .cells #[.int .i64 a0_0, .int .i64 a0_1, .int .i64 a0_2, .int .i64 a0_3, .int .i64 a0_4, .int .i64 a0_5, .int .u64 a0_6, .int .i64 a0_7] 26 (0, 0)) (by (with_reducible repeat (first | refine blk_drewN ?_ _ | refine blk_drew ?_ | refine blk_alloc ?_ _)); exact BK240.out) hb)
  have n1_ := Aside0.mk (blk_below (g := gb250) (o := .cells #[.int .i64 t242, .int .i64 t243, .int .i64 t244, .int .i64 t245, .int .i64 t246, .int .i64 t247, .int .u64 t248, .int .i64 t249] 26 (0, 0)) (by (with_reducible repeat (first | refine blk_drewN ?_ _ | refine blk_drew ?_ | refine blk_alloc ?_ _)); exact BK250.out) hb)
  have n2_ := Aside0.mk (below_step (by repeat (first | (with_reducible first | exact HB.out | apply below_alloc | apply pw_below_drewN | apply below_drew1 | refine below_set ?_ GE240.out | refine below_set ?_ GE250.out) | exact HB.out)) hb)
  clear BK240
  clear BK250
  clear HB
  have BK240 := n0_
  have BK250 := n1_
  have HB := n2_
  clear n0_ n1_ n2_
  (try clear hb)
  (try clear hb2)
  (try clear hk)
  (try clear hi)
  refine hK.out _ _ ⟨(blk_cell BK240.out 0).trans rfl, (blk_cell BK240.out 1).trans rfl, (blk_cell BK240.out 2).trans rfl, (blk_cell BK240.out 3).trans rfl, (blk_cell BK240.out 4).trans rfl, (blk_cell BK240.out 5).trans rfl, (blk_cell BK240.out 6).trans rfl, (blk_cell BK240.out 7).trans rfl, (blk_cell BK250.out 0).trans rfl, (blk_cell BK250.out 1).trans rfl, (blk_cell BK250.out 2).trans rfl, (blk_cell BK250.out 3).trans rfl, (blk_cell BK250.out 4).trans rfl, (blk_cell BK250.out 5).trans rfl, (blk_cell BK250.out 6).trans rfl, (blk_cell BK250.out 7).trans rfl⟩ (fun hHeld => ?_)
  clear hK K
  refine norm_ (a' := ?_) ?_ ?_
  rotate_left
  · show Act.put _ (some 17) _ = _
    simp only [Act.put, List.setIfInBounds_toArray, List.set_cons_zero, List.set_cons_succ, i64_w, i32_w]
    rfl
  refine pure_ (i := 10) (N := some 18) (v := ?_) (a' := ?_) #[true, true, true, true, true, true, true, true, true, true, true, false, false, false, false, false, false, false, false, false, false, false, false, false, false, false, false] rfl rfl (any_of HT_.out (by kernel_rfl)) (fun _ _ _ h => h) (Or.inl ⟨by rfl, ?_⟩) ?_ ?_
  rotate_left
  · intro w'
    go_simp
    with_reducible rfl
  rotate_left
  · simp only [Act.put, List.setIfInBounds_toArray, List.set_cons_zero, List.set_cons_succ, i64_w, i32_w]
    rfl
  refine pure_ (i := 11) (N := some 19) (v := ?_) (a' := ?_) #[true, true, true, true, true, true, true, true, true, true, true, true, false, false, false, false, false, false, false, false, false, false, false, false, false, false, false] rfl rfl (any_of HT_.out (by kernel_rfl)) (fun _ _ _ h => h) (Or.inl ⟨by rfl, ?_⟩) ?_ ?_
  rotate_left
  · intro w'
    go_simp
    with_reducible rfl
  rotate_left
  · simp only [Act.put, List.setIfInBounds_toArray, List.set_cons_zero, List.set_cons_succ, i64_w, i32_w]
    rfl
  refine pure_ (i := 12) (N := some 20) (v := ?_) (a' := ?_) #[true, true, true, true, true, true, true, true, true, true, true, true, true, false, false, false, false, false, false, false, false, false, false, false, false, false, false] rfl rfl (any_of HT_.out (by kernel_rfl)) (fun _ _ _ h => h) (Or.inl ⟨by rfl, ?_⟩) ?_ ?_
  rotate_left
  · intro w'
    go_simp
    with_reducible rfl
  rotate_left
  · simp only [Act.put, List.setIfInBounds_toArray, List.set_cons_zero, List.set_cons_succ, i64_w, i32_w]
    rfl
  refine take_ (i := 13) (N := some 21) (v := ?_) (a' := ?_) #[true, true, true, true, true, true, true, true, true, true, true, true, true, true, false, false, false, false, false, false, false, false, false, false, false, false, false] rfl rfl (take_ofW HT_.out HW_.out (by kernel_rfl)) (fun _ _ _ h => h) (Or.inl ⟨by rfl, ?_⟩) hHeld ?_ ?_
  rotate_left
  · rintro w' ⟨s0, s1, s2, s3, s4, s5, s6, s7, s8, s9, s10, s11, s12, s13, s14, s15⟩
    go_simp
    with_reducible rfl
  rotate_left
  · simp only [Act.put, List.setIfInBounds_toArray, List.set_cons_zero, List.set_cons_succ, i64_w, i32_w]
    rfl
  refine one_ (i := 14) (N := some 22) #[true, true, true, true, true, true, true, true, true, true, true, true, true, true, true, false, false, false, false, false, false, false, false, false, false, false, false] rfl rfl (one_of HT_.out (by kernel_rfl)) (by decide) (fun K hK => ?_)
  refine goes_ Try.func12 (by kernel_rfl) rfl #[.agg #[.int .i64 t242, .int .i64 t243, .int .i64 t244, .int .i64 t245, .int .i64 t246, .int .i64 t247, .int .u64 t248, .int .i64 t249]] (by rfl) rfl rfl (by (try simp only [List.map_toArray, List.map_cons, List.map_nil]); first | done | rfl | (simp only [List.length_drop, List.length_take]; rfl)) ?_
  with_reducible refine (encode_May.calls k t242 t243 t244 t245 t246 t247 t248 t249 true _ A11.out).mono ?_
  rintro e w29 ⟨rfl, hb⟩
  refine ⟨_, rfl, ?_⟩
  have n0_ := Aside0.mk (blk_below (g := gb240) (o := .cells #[.int .i64 a0_0, .int .i64 a0_1, .int .i64 a0_2, .int .i64 a0_3, .int .i64 a0_4, .int .i64 a0_5, .int .u64 a0_6, .int .i64 a0_7] 26 (0, 0)) (by (with_reducible repeat (first | refine blk_drewN ?_ _ | refine blk_drew ?_ | refine blk_alloc ?_ _)); exact BK240.out) hb)
  have n1_ := Aside0.mk (blk_below (g := gb250) (o := .cells #[.int .i64 t242, .int .i64 t243, .int .i64 t244, .int .i64 t245, .int .i64 t246, .int .i64 t247, .int .u64 t248, .int .i64 t249] 26 (0, 0)) (by (with_reducible repeat (first | refine blk_drewN ?_ _ | refine blk_drew ?_ | refine blk_alloc ?_ _)); exact BK250.out) hb)
  have n2_ := Aside0.mk (below_step (by repeat (first | (with_reducible first | exact HB.out | apply below_alloc | apply pw_below_drewN | apply below_drew1 | refine below_set ?_ GE240.out | refine below_set ?_ GE250.out) | exact HB.out)) hb)
  clear BK240
  clear BK250
  clear HB
  have BK240 := n0_
  have BK250 := n1_
  have HB := n2_
  clear n0_ n1_ n2_
  (try clear hb)
  (try clear hb2)
  (try clear hk)
  (try clear hi)
  refine hK.out _ _ ⟨(blk_cell BK240.out 0).trans rfl, (blk_cell BK240.out 1).trans rfl, (blk_cell BK240.out 2).trans rfl, (blk_cell BK240.out 3).trans rfl, (blk_cell BK240.out 4).trans rfl, (blk_cell BK240.out 5).trans rfl, (blk_cell BK240.out 6).trans rfl, (blk_cell BK240.out 7).trans rfl, (blk_cell BK250.out 0).trans rfl, (blk_cell BK250.out 1).trans rfl, (blk_cell BK250.out 2).trans rfl, (blk_cell BK250.out 3).trans rfl, (blk_cell BK250.out 4).trans rfl, (blk_cell BK250.out 5).trans rfl, (blk_cell BK250.out 6).trans rfl, (blk_cell BK250.out 7).trans rfl⟩ (fun hHeld => ?_)
  clear hK K
  refine norm_ (a' := ?_) ?_ ?_
  rotate_left
  · show Act.put _ (some 22) _ = _
    simp only [Act.put, List.setIfInBounds_toArray, List.set_cons_zero, List.set_cons_succ, i64_w, i32_w]
    rfl
  refine pure_ (i := 15) (N := some 23) (v := ?_) (a' := ?_) #[true, true, true, true, true, true, true, true, true, true, true, true, true, true, true, true, false, false, false, false, false, false, false, false, false, false, false] rfl rfl (any_of HT_.out (by kernel_rfl)) (fun _ _ _ h => h) (Or.inl ⟨by rfl, ?_⟩) ?_ ?_
  rotate_left
  · intro w'
    go_simp
    with_reducible rfl
  rotate_left
  · simp only [Act.put, List.setIfInBounds_toArray, List.set_cons_zero, List.set_cons_succ, i64_w, i32_w]
    rfl
  refine pure_ (i := 16) (N := some 24) (v := ?_) (a' := ?_) #[true, true, true, true, true, true, true, true, true, true, true, true, true, true, true, true, true, false, false, false, false, false, false, false, false, false, false] rfl rfl (any_of HT_.out (by kernel_rfl)) (fun _ _ _ h => h) (Or.inl ⟨by rfl, ?_⟩) ?_ ?_
  rotate_left
  · intro w'
    go_simp
    with_reducible rfl
  rotate_left
  · simp only [Act.put, List.setIfInBounds_toArray, List.set_cons_zero, List.set_cons_succ, i64_w, i32_w]
    rfl
  refine take_ (i := 17) (N := some 25) (v := ?_) (a' := ?_) #[true, true, true, true, true, true, true, true, true, true, true, true, true, true, true, true, true, true, false, false, false, false, false, false, false, false, false] rfl rfl (take_ofW HT_.out HW_.out (by kernel_rfl)) (fun _ _ _ h => h) (Or.inl ⟨by rfl, ?_⟩) hHeld ?_ ?_
  rotate_left
  · rintro w' ⟨s0, s1, s2, s3, s4, s5, s6, s7, s8, s9, s10, s11, s12, s13, s14, s15⟩
    go_simp
    with_reducible rfl
  rotate_left
  · simp only [Act.put, List.setIfInBounds_toArray, List.set_cons_zero, List.set_cons_succ, i64_w, i32_w]
    rfl
  refine one_ (i := 18) (N := some 26) #[true, true, true, true, true, true, true, true, true, true, true, true, true, true, true, true, true, true, true, false, false, false, false, false, false, false, false] rfl rfl (one_of HT_.out (by kernel_rfl)) (by decide) (fun K hK => ?_)
  refine goes_ Try.func13 (by kernel_rfl) rfl #[.agg #[.int .i64 t242, .int .i64 t243, .int .i64 t244, .int .i64 t245, .int .i64 t246, .int .i64 t247, .int .u64 t248, .int .i64 t249]] (by rfl) rfl rfl (by (try simp only [List.map_toArray, List.map_cons, List.map_nil]); first | done | rfl | (simp only [List.length_drop, List.length_take]; rfl)) ?_
  with_reducible refine (tautochronelaw20_may.calls k t242 t243 t244 t245 t246 t247 t248 t249 true _ A13.out).mono ?_
  rintro e w30 ⟨rfl, hb⟩
  refine ⟨_, rfl, ?_⟩
  have n0_ := Aside0.mk (blk_below (g := gb240) (o := .cells #[.int .i64 a0_0, .int .i64 a0_1, .int .i64 a0_2, .int .i64 a0_3, .int .i64 a0_4, .int .i64 a0_5, .int .u64 a0_6, .int .i64 a0_7] 26 (0, 0)) (by (with_reducible repeat (first | refine blk_drewN ?_ _ | refine blk_drew ?_ | refine blk_alloc ?_ _)); exact BK240.out) hb)
  have n1_ := Aside0.mk (blk_below (g := gb250) (o := .cells #[.int .i64 t242, .int .i64 t243, .int .i64 t244, .int .i64 t245, .int .i64 t246, .int .i64 t247, .int .u64 t248, .int .i64 t249] 26 (0, 0)) (by (with_reducible repeat (first | refine blk_drewN ?_ _ | refine blk_drew ?_ | refine blk_alloc ?_ _)); exact BK250.out) hb)
  have n2_ := Aside0.mk (below_step (by repeat (first | (with_reducible first | exact HB.out | apply below_alloc | apply pw_below_drewN | apply below_drew1 | refine below_set ?_ GE240.out | refine below_set ?_ GE250.out) | exact HB.out)) hb)
  clear BK240
  clear BK250
  clear HB
  have BK240 := n0_
  have BK250 := n1_
  have HB := n2_
  clear n0_ n1_ n2_
  (try clear hb)
  (try clear hb2)
  (try clear hk)
  (try clear hi)
  refine hK.out _ _ ⟨(blk_cell BK240.out 0).trans rfl, (blk_cell BK240.out 1).trans rfl, (blk_cell BK240.out 2).trans rfl, (blk_cell BK240.out 3).trans rfl, (blk_cell BK240.out 4).trans rfl, (blk_cell BK240.out 5).trans rfl, (blk_cell BK240.out 6).trans rfl, (blk_cell BK240.out 7).trans rfl, (blk_cell BK250.out 0).trans rfl, (blk_cell BK250.out 1).trans rfl, (blk_cell BK250.out 2).trans rfl, (blk_cell BK250.out 3).trans rfl, (blk_cell BK250.out 4).trans rfl, (blk_cell BK250.out 5).trans rfl, (blk_cell BK250.out 6).trans rfl, (blk_cell BK250.out 7).trans rfl⟩ (fun hHeld => ?_)
  clear hK K
  refine norm_ (a' := ?_) ?_ ?_
  rotate_left
  · show Act.put _ (some 26) _ = _
    simp only [Act.put, List.setIfInBounds_toArray, List.set_cons_zero, List.set_cons_succ, i64_w, i32_w]
    rfl
  refine pure_ (i := 19) (N := some 27) (v := ?_) (a' := ?_) #[true, true, true, true, true, true, true, true, true, true, true, true, true, true, true, true, true, true, true, true, false, false, false, false, false, false, false] rfl rfl (any_of HT_.out (by kernel_rfl)) (fun _ _ _ h => h) (Or.inl ⟨by rfl, ?_⟩) ?_ ?_
  rotate_left
  · intro w'
    go_simp
    with_reducible rfl
  rotate_left
  · simp only [Act.put, List.setIfInBounds_toArray, List.set_cons_zero, List.set_cons_succ, i64_w, i32_w]
    rfl
  refine pure_ (i := 20) (N := some 28) (v := ?_) (a' := ?_) #[true, true, true, true, true, true, true, true, true, true, true, true, true, true, true, true, true, true, true, true, true, false, false, false, false, false, false] rfl rfl (any_of HT_.out (by kernel_rfl)) (fun _ _ _ h => h) (Or.inl ⟨by rfl, ?_⟩) ?_ ?_
  rotate_left
  · intro w'
    go_simp
    with_reducible rfl
  rotate_left
  · simp only [Act.put, List.setIfInBounds_toArray, List.set_cons_zero, List.set_cons_succ, i64_w, i32_w]
    rfl
  refine take_ (i := 21) (N := some 29) (v := ?_) (a' := ?_) #[true, true, true, true, true, true, true, true, true, true, true, true, true, true, true, true, true, true, true, true, true, true, false, false, false, false, false] rfl rfl (take_ofW HT_.out HW_.out (by kernel_rfl)) (fun _ _ _ h => h) (Or.inl ⟨by rfl, ?_⟩) hHeld ?_ ?_
  rotate_left
  · rintro w' ⟨s0, s1, s2, s3, s4, s5, s6, s7, s8, s9, s10, s11, s12, s13, s14, s15⟩
    go_simp
    with_reducible rfl
  rotate_left
  · simp only [Act.put, List.setIfInBounds_toArray, List.set_cons_zero, List.set_cons_succ, i64_w, i32_w]
    rfl
  refine take_ (i := 23) (N := some 31) (v := ?_) (a' := ?_) #[true, true, true, true, true, true, true, true, true, true, true, true, true, true, true, true, true, true, true, true, true, true, false, true, false, false, false] rfl rfl (take_ofW HT_.out HW_.out (by kernel_rfl)) (fun _ _ _ h => h) (Or.inl ⟨by rfl, ?_⟩) hHeld ?_ ?_
  rotate_left
  · rintro w' ⟨s0, s1, s2, s3, s4, s5, s6, s7, s8, s9, s10, s11, s12, s13, s14, s15⟩
    go_simp
    with_reducible rfl
  rotate_left
  · simp only [Act.put, List.setIfInBounds_toArray, List.set_cons_zero, List.set_cons_succ, i64_w, i32_w]
    rfl
  refine one_ (i := 22) (N := some 30) #[true, true, true, true, true, true, true, true, true, true, true, true, true, true, true, true, true, true, true, true, true, true, true, true, false, false, false] rfl rfl (one_of HT_.out (by kernel_rfl)) (by decide) (fun K hK => ?_)
  refine goes_ Try.func10 (by kernel_rfl) rfl #[.agg #[.int .i64 t242, .int .i64 t243, .int .i64 t244, .int .i64 t245, .int .i64 t246, .int .i64 t247, .int .u64 t248, .int .i64 t249]] (by rfl) rfl rfl (by (try simp only [List.map_toArray, List.map_cons, List.map_nil]); first | done | rfl | (simp only [List.length_drop, List.length_take]; rfl)) ?_
  with_reducible refine (encode_Bare.calls k t242 t243 t244 t245 t246 t247 t248 t249 t271 t272 t273 t274 t275 t276 t277 t278 _ A15.out).mono ?_
  rintro e w31 ⟨rfl, hb⟩
  refine ⟨_, rfl, ?_⟩
  have n0_ := Aside0.mk (blk_below (g := gb240) (o := .cells #[.int .i64 a0_0, .int .i64 a0_1, .int .i64 a0_2, .int .i64 a0_3, .int .i64 a0_4, .int .i64 a0_5, .int .u64 a0_6, .int .i64 a0_7] 26 (0, 0)) (by (with_reducible repeat (first | refine blk_drewN ?_ _ | refine blk_drew ?_ | refine blk_alloc ?_ _)); exact BK240.out) hb)
  have n1_ := Aside0.mk (blk_below (g := gb250) (o := .cells #[.int .i64 t242, .int .i64 t243, .int .i64 t244, .int .i64 t245, .int .i64 t246, .int .i64 t247, .int .u64 t248, .int .i64 t249] 26 (0, 0)) (by (with_reducible repeat (first | refine blk_drewN ?_ _ | refine blk_drew ?_ | refine blk_alloc ?_ _)); exact BK250.out) hb)
  have n2_ := Aside0.mk (below_step (by repeat (first | (with_reducible first | exact HB.out | apply below_alloc | apply pw_below_drewN | apply below_drew1 | refine below_set ?_ GE240.out | refine below_set ?_ GE250.out) | exact HB.out)) hb)
  clear BK240
  clear BK250
  clear HB
  have BK240 := n0_
  have BK250 := n1_
  have HB := n2_
  clear n0_ n1_ n2_
  (try clear hb)
  (try clear hb2)
  (try clear hk)
  (try clear hi)
  refine hK.out _ _ ⟨(blk_cell BK240.out 0).trans rfl, (blk_cell BK240.out 1).trans rfl, (blk_cell BK240.out 2).trans rfl, (blk_cell BK240.out 3).trans rfl, (blk_cell BK240.out 4).trans rfl, (blk_cell BK240.out 5).trans rfl, (blk_cell BK240.out 6).trans rfl, (blk_cell BK240.out 7).trans rfl, (blk_cell BK250.out 0).trans rfl, (blk_cell BK250.out 1).trans rfl, (blk_cell BK250.out 2).trans rfl, (blk_cell BK250.out 3).trans rfl, (blk_cell BK250.out 4).trans rfl, (blk_cell BK250.out 5).trans rfl, (blk_cell BK250.out 6).trans rfl, (blk_cell BK250.out 7).trans rfl⟩ (fun hHeld => ?_)
  clear hK K
  refine norm_ (a' := ?_) ?_ ?_
  rotate_left
  · show Act.put _ (some 30) _ = _
    simp only [Act.put, List.setIfInBounds_toArray, List.set_cons_zero, List.set_cons_succ, i64_w, i32_w]
    rfl
  refine pure_ (i := 24) (N := some 32) (v := ?_) (a' := ?_) #[true, true, true, true, true, true, true, true, true, true, true, true, true, true, true, true, true, true, true, true, true, true, true, true, true, false, false] rfl rfl (any_of HT_.out (by kernel_rfl)) (fun _ _ _ h => h) (Or.inl ⟨by rfl, ?_⟩) ?_ ?_
  rotate_left
  · intro w'
    go_simp
    with_reducible rfl
  rotate_left
  · simp only [Act.put, List.setIfInBounds_toArray, List.set_cons_zero, List.set_cons_succ, i64_w, i32_w]
    rfl
  refine pure_ (i := 25) (N := some 33) (v := ?_) (a' := ?_) #[true, true, true, true, true, true, true, true, true, true, true, true, true, true, true, true, true, true, true, true, true, true, true, true, true, true, false] rfl rfl (any_of HT_.out (by kernel_rfl)) (fun _ _ _ h => h) (Or.inl ⟨by rfl, ?_⟩) ?_ ?_
  rotate_left
  · intro w'
    go_simp
    with_reducible rfl
  rotate_left
  · simp only [Act.put, List.setIfInBounds_toArray, List.set_cons_zero, List.set_cons_succ, i64_w, i32_w]
    rfl
  refine pure_ (i := 26) (N := some 2) (v := ?_) (a' := ?_) #[true, true, true, true, true, true, true, true, true, true, true, true, true, true, true, true, true, true, true, true, true, true, true, true, true, true, true] rfl rfl (any_of HT_.out (by kernel_rfl)) (fun _ _ _ h => h) (Or.inl ⟨by rfl, ?_⟩) ?_ ?_
  rotate_left
  · intro w'
    go_simp
    with_reducible rfl
  rotate_left
  · simp only [Act.put, List.setIfInBounds_toArray, List.set_cons_zero, List.set_cons_succ, i64_w, i32_w]
    rfl
  refine done_ (done_of HT_.out (by kernel_rfl)) ?_
  try go_wp2
  go_ret
  exact ⟨by first | rfl | (simp [errW_none, errW_some] <;> rfl) | (simp [*, errW_none, errW_some] <;> rfl), by repeat (first | (with_reducible first | exact HB.out | apply below_alloc | apply pw_below_drewN | apply below_drew1 | refine below_set ?_ GE240.out | refine below_set ?_ GE250.out) | exact HB.out)⟩

end Go.Proofs.Ytnnedajhphkphaa.PEncodeBare
