/-
For TsoScript: what the Go functions that it reaches compute, as plain Lean functions, and the walks that show it; conditions as each theorem states them. (Written by a program of this session on the kit's print.)
-/
import Derived.Test.YtaenjbhhpdmhgaaWSized
import Derived.Test.YtaenjbhhpdmhgaaPTsoScriptx2
-- PRINTED by print.py (a twelfth state) out of the translation. Not trusted: Lean checks it.
namespace Go.Proofs.Ytaenjbhhpdmhgaa.PTsoScript
open Go.RowKit Go.Proofs.YtaenjbhhpdmhgaaW.PrintWords Go.Proofs.YtaenjbhhpdmhgaaW.PrintLast Go.Proofs.YtaenjbhhpdmhgaaW.PrintMore
attribute [local go_sem] max2_int min2_int max_two min_two max_three min_three max_four min_four   -- for this text's walks alone
set_option linter.unusedVariables false
set_option linter.unusedSimpArgs false

/-! ### encode_bare: function 28 -/
mutual
def encode_bare.j0 : Nat → Int → Int → Int → Int → Int → Int → Int → Int → Int → Int → Int → Int → Int → Int → Int → Int → Option (Int × Int × Int × Int × Int × Int × Int × Int)
 | 0, _, _, _, _, _, _, _, _, _, _, _, _, _, _, _, _ => none
 | k + 1, x139000, x139001, x139002, x139003, x139004, x139005, x139006, x139007, x141000, x141001, x141002, x141003, x141004, x141005, x141006, x141007 => if x139000 = 1 then (encode_bare.j1 k x139000 (x139000 == 1) x139000 x139001 x139002 x139003 x139004 x139005 x139006 x139007 x141000 x141001 x141002 x141003 x141004 x141005 x141006 x141007) else (if x139000 = 7 then (encode_bare.j1 k x139000 (x139000 == 7) x139000 x139001 x139002 x139003 x139004 x139005 x139006 x139007 x141000 x141001 x141002 x141003 x141004 x141005 x141006 x141007) else (if x139000 = 10 then (encode_bare.j1 k x139000 (x139000 == 10) x139000 x139001 x139002 x139003 x139004 x139005 x139006 x139007 x141000 x141001 x141002 x141003 x141004 x141005 x141006 x141007) else (encode_bare.j1 k x139000 (x139000 == 12) x139000 x139001 x139002 x139003 x139004 x139005 x139006 x139007 x141000 x141001 x141002 x141003 x141004 x141005 x141006 x141007)))
def encode_bare.j2 : Nat → Int → Int → Int → Int → Int → Int → Int → Int → Int → Int → Int → Int → Int → Int → Int → Int → Option (Int × Int × Int × Int × Int × Int × Int × Int)
 | 0, _, _, _, _, _, _, _, _, _, _, _, _, _, _, _, _ => none
 | k + 1, x139000, x139001, x139002, x139003, x139004, x139005, x139006, x139007, x141000, x141001, x141002, x141003, x141004, x141005, x141006, x141007 => if x139000 = 0 then (encode_bare.j3 k true x139000 x139001 x139002 x139003 x139004 x139005 x139006 x139007 x141000 x141001 x141002 x141003 x141004 x141005 x141006 x141007) else (if x139000 = 4 then (encode_bare.j3 k true x139000 x139001 x139002 x139003 x139004 x139005 x139006 x139007 x141000 x141001 x141002 x141003 x141004 x141005 x141006 x141007) else (if x139000 = 5 then (encode_bare.j3 k true x139000 x139001 x139002 x139003 x139004 x139005 x139006 x139007 x141000 x141001 x141002 x141003 x141004 x141005 x141006 x141007) else (if x139000 = 8 then (encode_bare.j3 k true x139000 x139001 x139002 x139003 x139004 x139005 x139006 x139007 x141000 x141001 x141002 x141003 x141004 x141005 x141006 x141007) else (if x139000 = 9 then (encode_bare.j3 k true x139000 x139001 x139002 x139003 x139004 x139005 x139006 x139007 x141000 x141001 x141002 x141003 x141004 x141005 x141006 x141007) else (encode_bare.j3 k (x139000 == 10) x139000 x139001 x139002 x139003 x139004 x139005 x139006 x139007 x141000 x141001 x141002 x141003 x141004 x141005 x141006 x141007)))))
def encode_bare.j3 : Nat → Bool → Int → Int → Int → Int → Int → Int → Int → Int → Int → Int → Int → Int → Int → Int → Int → Int → Option (Int × Int × Int × Int × Int × Int × Int × Int)
 | 0, _, _, _, _, _, _, _, _, _, _, _, _, _, _, _, _, _ => none
 | k + 1, x92, x139000, x139001, x139002, x139003, x139004, x139005, x139006, x139007, x141000, x141001, x141002, x141003, x141004, x141005, x141006, x141007 => if x92 = true then (if x139000 = 6 then (some (x141000, x141001, x141002, x141003, x141004, x141005, x139006, x139007)) else (if x139000 = 7 then (some (x141000, x141001, x141002, x141003, x141004, x141005, x139006, x139007)) else (some (x141000, x141001, x141002, x141003, x141004, x141005, x139006, x141007)))) else (if x139000 = 6 then (some (x141000, x141001, x141002, x141003, x141004, x141005, x141006, x139007)) else (if x139000 = 7 then (some (x141000, x141001, x141002, x141003, x141004, x141005, x141006, x139007)) else (some (x141000, x141001, x141002, x141003, x141004, x141005, x141006, x141007))))
def encode_bare.j1 : Nat → Int → Bool → Int → Int → Int → Int → Int → Int → Int → Int → Int → Int → Int → Int → Int → Int → Int → Int → Option (Int × Int × Int × Int × Int × Int × Int × Int)
 | 0, _, _, _, _, _, _, _, _, _, _, _, _, _, _, _, _, _, _ => none
 | k + 1, x19, x20, x139000, x139001, x139002, x139003, x139004, x139005, x139006, x139007, x141000, x141001, x141002, x141003, x141004, x141005, x141006, x141007 => if x20 = true then (encode_bare.j2 k x139000 x139001 x139002 x139003 x139004 x139005 x139006 x139007 x141000 x141001 x141002 x139003 x141004 x141005 x141006 x141007) else (if x19 = 2 then (encode_bare.j2 k x139000 x139001 x139002 x139003 x139004 x139005 x139006 x139007 x141000 x139001 x141002 x139003 x139004 x141005 x141006 x141007) else (if x19 = 3 then (encode_bare.j2 k x139000 x139001 x139002 x139003 x139004 x139005 x139006 x139007 x141000 x141001 x141002 x139003 x139004 x139005 x141006 x141007) else (if x19 = 4 then (encode_bare.j2 k x139000 x139001 x139002 x139003 x139004 x139005 x139006 x139007 x141000 x141001 x141002 (mx x139003 (-1)) x141004 x141005 x141006 x141007) else (if x19 = 5 then (encode_bare.j2 k x139000 x139001 x139002 x139003 x139004 x139005 x139006 x139007 x141000 x141001 x141002 (mx x139003 (-1)) x139004 x141005 x141006 x141007) else (encode_bare.j2 k x139000 x139001 x139002 x139003 x139004 x139005 x139006 x139007 x141000 x141001 x141002 x141003 x141004 x141005 x141006 x141007)))))
end
def encode_bare.f (k : Nat) (a0_0 : Int) (a0_1 : Int) (a0_2 : Int) (a0_3 : Int) (a0_4 : Int) (a0_5 : Int) (a0_6 : Int) (a0_7 : Int) : Option (Int × Int × Int × Int × Int × Int × Int × Int) := (code_Defines.f a0_0 a0_1 a0_2 a0_3 a0_4 a0_5 a0_6 a0_7).bind fun bt141 => (if bt141.2 = true then (encode_bare.j0 k a0_0 a0_1 a0_2 a0_3 a0_4 a0_5 a0_6 a0_7 a0_0 0 a0_2 (-1) (-1) (-1) 0 0) else (encode_bare.j0 k a0_0 a0_1 a0_2 a0_3 a0_4 a0_5 a0_6 a0_7 a0_0 0 (-1) (-1) (-1) (-1) 0 0))
theorem encode_bare.mono_l : ∀ k, (∀ y0 y1 y2 y3 y4 y5 y6 y7 y8 y9 y10 y11 y12 y13 y14 y15, LeO (encode_bare.j0 k y0 y1 y2 y3 y4 y5 y6 y7 y8 y9 y10 y11 y12 y13 y14 y15) (encode_bare.j0 (k + 1) y0 y1 y2 y3 y4 y5 y6 y7 y8 y9 y10 y11 y12 y13 y14 y15)) ∧ (∀ y0 y1 y2 y3 y4 y5 y6 y7 y8 y9 y10 y11 y12 y13 y14 y15, LeO (encode_bare.j2 k y0 y1 y2 y3 y4 y5 y6 y7 y8 y9 y10 y11 y12 y13 y14 y15) (encode_bare.j2 (k + 1) y0 y1 y2 y3 y4 y5 y6 y7 y8 y9 y10 y11 y12 y13 y14 y15)) ∧ (∀ y0 y1 y2 y3 y4 y5 y6 y7 y8 y9 y10 y11 y12 y13 y14 y15 y16, LeO (encode_bare.j3 k y0 y1 y2 y3 y4 y5 y6 y7 y8 y9 y10 y11 y12 y13 y14 y15 y16) (encode_bare.j3 (k + 1) y0 y1 y2 y3 y4 y5 y6 y7 y8 y9 y10 y11 y12 y13 y14 y15 y16)) ∧ (∀ y0 y1 y2 y3 y4 y5 y6 y7 y8 y9 y10 y11 y12 y13 y14 y15 y16 y17, LeO (encode_bare.j1 k y0 y1 y2 y3 y4 y5 y6 y7 y8 y9 y10 y11 y12 y13 y14 y15 y16 y17) (encode_bare.j1 (k + 1) y0 y1 y2 y3 y4 y5 y6 y7 y8 y9 y10 y11 y12 y13 y14 y15 y16 y17))
 | 0 => ⟨fun _ _ _ _ _ _ _ _ _ _ _ _ _ _ _ _ r h => by simp [encode_bare.j0] at h, fun _ _ _ _ _ _ _ _ _ _ _ _ _ _ _ _ r h => by simp [encode_bare.j2] at h, fun _ _ _ _ _ _ _ _ _ _ _ _ _ _ _ _ _ r h => by simp [encode_bare.j3] at h, fun _ _ _ _ _ _ _ _ _ _ _ _ _ _ _ _ _ _ r h => by simp [encode_bare.j1] at h⟩
 | k + 1 => by
  obtain ⟨ih0, ih1, ih2, ih3⟩ := encode_bare.mono_l k
  refine ⟨?_, ?_, ?_, ?_⟩
  ·
   intro y0 y1 y2 y3 y4 y5 y6 y7 y8 y9 y10 y11 y12 y13 y14 y15
   unfold encode_bare.j0
   repeat' first
   | (with_reducible exact ih0 _ _ _ _ _ _ _ _ _ _ _ _ _ _ _ _)
   | (with_reducible exact ih1 _ _ _ _ _ _ _ _ _ _ _ _ _ _ _ _)
   | (with_reducible exact ih2 _ _ _ _ _ _ _ _ _ _ _ _ _ _ _ _ _)
   | (with_reducible exact ih3 _ _ _ _ _ _ _ _ _ _ _ _ _ _ _ _ _ _)
   | (with_reducible exact LeO.refl _)
   | (with_reducible exact LeO.none _)
   | (with_reducible refine LeO.ite ?_ ?_)
   | (with_reducible refine LeO.bind ?_ (fun _ => ?_))
   | exact ih0 _ _ _ _ _ _ _ _ _ _ _ _ _ _ _ _
   | exact ih1 _ _ _ _ _ _ _ _ _ _ _ _ _ _ _ _
   | exact ih2 _ _ _ _ _ _ _ _ _ _ _ _ _ _ _ _ _
   | exact ih3 _ _ _ _ _ _ _ _ _ _ _ _ _ _ _ _ _ _
   | exact LeO.none _
   | refine LeO.ite ?_ ?_
   | refine LeO.bind ?_ (fun _ => ?_)
  ·
   intro y0 y1 y2 y3 y4 y5 y6 y7 y8 y9 y10 y11 y12 y13 y14 y15
   unfold encode_bare.j2
   repeat' first
   | (with_reducible exact ih0 _ _ _ _ _ _ _ _ _ _ _ _ _ _ _ _)
   | (with_reducible exact ih1 _ _ _ _ _ _ _ _ _ _ _ _ _ _ _ _)
   | (with_reducible exact ih2 _ _ _ _ _ _ _ _ _ _ _ _ _ _ _ _ _)
   | (with_reducible exact ih3 _ _ _ _ _ _ _ _ _ _ _ _ _ _ _ _ _ _)
   | (with_reducible exact LeO.refl _)
   | (with_reducible exact LeO.none _)
   | (with_reducible refine LeO.ite ?_ ?_)
   | (with_reducible refine LeO.bind ?_ (fun _ => ?_))
   | exact ih0 _ _ _ _ _ _ _ _ _ _ _ _ _ _ _ _
   | exact ih1 _ _ _ _ _ _ _ _ _ _ _ _ _ _ _ _
   | exact ih2 _ _ _ _ _ _ _ _ _ _ _ _ _ _ _ _ _
   | exact ih3 _ _ _ _ _ _ _ _ _ _ _ _ _ _ _ _ _ _
   | exact LeO.none _
   | refine LeO.ite ?_ ?_
   | refine LeO.bind ?_ (fun _ => ?_)
  ·
   intro y0 y1 y2 y3 y4 y5 y6 y7 y8 y9 y10 y11 y12 y13 y14 y15 y16
   unfold encode_bare.j3
   repeat' first
   | (with_reducible exact ih0 _ _ _ _ _ _ _ _ _ _ _ _ _ _ _ _)
   | (with_reducible exact ih1 _ _ _ _ _ _ _ _ _ _ _ _ _ _ _ _)
   | (with_reducible exact ih2 _ _ _ _ _ _ _ _ _ _ _ _ _ _ _ _ _)
   | (with_reducible exact ih3 _ _ _ _ _ _ _ _ _ _ _ _ _ _ _ _ _ _)
   | (with_reducible exact LeO.refl _)
   | (with_reducible exact LeO.none _)
   | (with_reducible refine LeO.ite ?_ ?_)
   | (with_reducible refine LeO.bind ?_ (fun _ => ?_))
   | exact ih0 _ _ _ _ _ _ _ _ _ _ _ _ _ _ _ _
   | exact ih1 _ _ _ _ _ _ _ _ _ _ _ _ _ _ _ _
   | exact ih2 _ _ _ _ _ _ _ _ _ _ _ _ _ _ _ _ _
   | exact ih3 _ _ _ _ _ _ _ _ _ _ _ _ _ _ _ _ _ _
   | exact LeO.none _
   | refine LeO.ite ?_ ?_
   | refine LeO.bind ?_ (fun _ => ?_)
  ·
   intro y0 y1 y2 y3 y4 y5 y6 y7 y8 y9 y10 y11 y12 y13 y14 y15 y16 y17
   unfold encode_bare.j1
   repeat' first
   | (with_reducible exact ih0 _ _ _ _ _ _ _ _ _ _ _ _ _ _ _ _)
   | (with_reducible exact ih1 _ _ _ _ _ _ _ _ _ _ _ _ _ _ _ _)
   | (with_reducible exact ih2 _ _ _ _ _ _ _ _ _ _ _ _ _ _ _ _ _)
   | (with_reducible exact ih3 _ _ _ _ _ _ _ _ _ _ _ _ _ _ _ _ _ _)
   | (with_reducible exact LeO.refl _)
   | (with_reducible exact LeO.none _)
   | (with_reducible refine LeO.ite ?_ ?_)
   | (with_reducible refine LeO.bind ?_ (fun _ => ?_))
   | exact ih0 _ _ _ _ _ _ _ _ _ _ _ _ _ _ _ _
   | exact ih1 _ _ _ _ _ _ _ _ _ _ _ _ _ _ _ _
   | exact ih2 _ _ _ _ _ _ _ _ _ _ _ _ _ _ _ _ _
   | exact ih3 _ _ _ _ _ _ _ _ _ _ _ _ _ _ _ _ _ _
   | exact LeO.none _
   | refine LeO.ite ?_ ?_
   | refine LeO.bind ?_ (fun _ => ?_)
theorem encode_bare.mono : ∀ a0 a1 a2 a3 a4 a5 a6 a7 k, LeO (encode_bare.f k a0 a1 a2 a3 a4 a5 a6 a7) (encode_bare.f (k + 1) a0 a1 a2 a3 a4 a5 a6 a7) := by
 intro a0 a1 a2 a3 a4 a5 a6 a7 k
 obtain ⟨ih0, ih1, ih2, ih3⟩ := encode_bare.mono_l k
 unfold encode_bare.f
 repeat' first
   | (with_reducible exact ih0 _ _ _ _ _ _ _ _ _ _ _ _ _ _ _ _)
   | (with_reducible exact ih1 _ _ _ _ _ _ _ _ _ _ _ _ _ _ _ _)
   | (with_reducible exact ih2 _ _ _ _ _ _ _ _ _ _ _ _ _ _ _ _ _)
   | (with_reducible exact ih3 _ _ _ _ _ _ _ _ _ _ _ _ _ _ _ _ _ _)
   | (with_reducible exact LeO.refl _)
   | (with_reducible exact LeO.none _)
   | (with_reducible refine LeO.ite ?_ ?_)
   | (with_reducible refine LeO.bind ?_ (fun _ => ?_))
   | exact ih0 _ _ _ _ _ _ _ _ _ _ _ _ _ _ _ _
   | exact ih1 _ _ _ _ _ _ _ _ _ _ _ _ _ _ _ _
   | exact ih2 _ _ _ _ _ _ _ _ _ _ _ _ _ _ _ _ _
   | exact ih3 _ _ _ _ _ _ _ _ _ _ _ _ _ _ _ _ _ _
   | exact LeO.none _
   | refine LeO.ite ?_ ?_
   | refine LeO.bind ?_ (fun _ => ?_)
set_option maxHeartbeats 4000000 in
set_option maxRecDepth 100000 in
theorem bare_0 (a1 a2 a3 a4 a5 a6 a7 : Int)  (w : World) :
  Calls Try.prog 28 #[.agg #[.int .i64 0, .int .i64 a1, .int .i64 a2, .int .i64 a3, .int .i64 a4, .int .i64 a5, .int .u64 a6, .int .i64 a7]] w fun e w' => e = .returned (.agg #[.int .i64 0, .int .i64 0, .int .i64 a2, .int .i64 (-1), .int .i64 (-1), .int .i64 (-1), .int .u64 a6, .int .i64 0]) ∧ Below w.heap.size w w' := by
 go_enter Try.func28, Try.ntmps28
 go_wp2
 refine wp_loop_rounds 4 ?_
 rw [rounds_succ]
 go_wp2
 refine bodyPost_ret (v := .agg #[.int .i64 0, .int .i64 0, .int .i64 a2, .int .i64 (-1), .int .i64 (-1), .int .i64 (-1), .int .u64 a6, .int .i64 0]) (by simp [results, Try.results28, go_sem]) rfl ⟨rfl, ?_⟩
 repeat (first | exact Below.refl _ _ | refine below_alloc ?_ _ | refine pw_below_drewN ?_ _ | refine below_drew ?_ | refine Below.setCell ?_ (by simp <;> omega) _)
set_option maxHeartbeats 4000000 in
set_option maxRecDepth 100000 in
theorem bare_1 (a1 a2 a3 a4 a5 a6 a7 : Int)  (w : World) :
  Calls Try.prog 28 #[.agg #[.int .i64 1, .int .i64 a1, .int .i64 a2, .int .i64 a3, .int .i64 a4, .int .i64 a5, .int .u64 a6, .int .i64 a7]] w fun e w' => e = .returned (.agg #[.int .i64 1, .int .i64 0, .int .i64 a2, .int .i64 a3, .int .i64 (-1), .int .i64 (-1), .int .u64 0, .int .i64 0]) ∧ Below w.heap.size w w' := by
 go_enter Try.func28, Try.ntmps28
 go_wp2
 refine wp_loop_rounds 4 ?_
 rw [rounds_succ]
 go_wp2
 rw [rounds_succ]
 go_wp2
 refine bodyPost_ret (v := .agg #[.int .i64 1, .int .i64 0, .int .i64 a2, .int .i64 a3, .int .i64 (-1), .int .i64 (-1), .int .u64 0, .int .i64 0]) (by simp [results, Try.results28, go_sem]) rfl ⟨rfl, ?_⟩
 repeat (first | exact Below.refl _ _ | refine below_alloc ?_ _ | refine pw_below_drewN ?_ _ | refine below_drew ?_ | refine Below.setCell ?_ (by simp <;> omega) _)
set_option maxHeartbeats 4000000 in
set_option maxRecDepth 100000 in
theorem bare_2 (a1 a2 a3 a4 a5 a6 a7 : Int)  (w : World) :
  Calls Try.prog 28 #[.agg #[.int .i64 2, .int .i64 a1, .int .i64 a2, .int .i64 a3, .int .i64 a4, .int .i64 a5, .int .u64 a6, .int .i64 a7]] w fun e w' => e = .returned (.agg #[.int .i64 2, .int .i64 a1, .int .i64 a2, .int .i64 a3, .int .i64 a4, .int .i64 (-1), .int .u64 0, .int .i64 0]) ∧ Below w.heap.size w w' := by
 go_enter Try.func28, Try.ntmps28
 go_wp2
 refine wp_loop_rounds 4 ?_
 rw [rounds_succ]
 go_wp2
 rw [rounds_succ]
 go_wp2
 rw [rounds_succ]
 go_wp2
 refine bodyPost_ret (v := .agg #[.int .i64 2, .int .i64 a1, .int .i64 a2, .int .i64 a3, .int .i64 a4, .int .i64 (-1), .int .u64 0, .int .i64 0]) (by simp [results, Try.results28, go_sem]) rfl ⟨rfl, ?_⟩
 repeat (first | exact Below.refl _ _ | refine below_alloc ?_ _ | refine pw_below_drewN ?_ _ | refine below_drew ?_ | refine Below.setCell ?_ (by simp <;> omega) _)
set_option maxHeartbeats 4000000 in
set_option maxRecDepth 100000 in
theorem bare_3 (a1 a2 a3 a4 a5 a6 a7 : Int)  (w : World) :
  Calls Try.prog 28 #[.agg #[.int .i64 3, .int .i64 a1, .int .i64 a2, .int .i64 a3, .int .i64 a4, .int .i64 a5, .int .u64 a6, .int .i64 a7]] w fun e w' => e = .returned (.agg #[.int .i64 3, .int .i64 0, .int .i64 a2, .int .i64 a3, .int .i64 a4, .int .i64 a5, .int .u64 0, .int .i64 0]) ∧ Below w.heap.size w w' := by
 go_enter Try.func28, Try.ntmps28
 go_wp2
 refine wp_loop_rounds 4 ?_
 rw [rounds_succ]
 go_wp2
 rw [rounds_succ]
 go_wp2
 rw [rounds_succ]
 go_wp2
 rw [rounds_succ]
 go_wp2
 refine bodyPost_ret (v := .agg #[.int .i64 3, .int .i64 0, .int .i64 a2, .int .i64 a3, .int .i64 a4, .int .i64 a5, .int .u64 0, .int .i64 0]) (by simp [results, Try.results28, go_sem]) rfl ⟨rfl, ?_⟩
 repeat (first | exact Below.refl _ _ | refine below_alloc ?_ _ | refine pw_below_drewN ?_ _ | refine below_drew ?_ | refine Below.setCell ?_ (by simp <;> omega) _)
set_option maxHeartbeats 4000000 in
set_option maxRecDepth 100000 in
theorem bare_4a (a1 a2 a3 a4 a5 a6 a7 : Int) (h : 0 ≤ a3) (w : World) :
  Calls Try.prog 28 #[.agg #[.int .i64 4, .int .i64 a1, .int .i64 a2, .int .i64 a3, .int .i64 a4, .int .i64 a5, .int .u64 a6, .int .i64 a7]] w fun e w' => e = .returned (.agg #[.int .i64 4, .int .i64 0, .int .i64 a2, .int .i64 a3, .int .i64 (-1), .int .i64 (-1), .int .u64 a6, .int .i64 0]) ∧ Below w.heap.size w w' := by
 go_enter Try.func28, Try.ntmps28
 go_wp2
 refine wp_loop_rounds 4 ?_
 rw [rounds_succ]
 go_wp2
 rw [rounds_succ]
 go_wp2
 refine bodyPost_ret (v := .agg #[.int .i64 4, .int .i64 0, .int .i64 a2, .int .i64 a3, .int .i64 (-1), .int .i64 (-1), .int .u64 a6, .int .i64 0]) (by simp [results, Try.results28, go_sem]) rfl ⟨rfl, ?_⟩
 repeat (first | exact Below.refl _ _ | refine below_alloc ?_ _ | refine pw_below_drewN ?_ _ | refine below_drew ?_ | refine Below.setCell ?_ (by simp <;> omega) _)
set_option maxHeartbeats 4000000 in
set_option maxRecDepth 100000 in
theorem bare_4b (a1 a2 a3 a4 a5 a6 a7 : Int) (h : a3 < 0) (w : World) :
  Calls Try.prog 28 #[.agg #[.int .i64 4, .int .i64 a1, .int .i64 a2, .int .i64 a3, .int .i64 a4, .int .i64 a5, .int .u64 a6, .int .i64 a7]] w fun e w' => e = .returned (.agg #[.int .i64 4, .int .i64 0, .int .i64 a2, .int .i64 (-1), .int .i64 (-1), .int .i64 (-1), .int .u64 a6, .int .i64 0]) ∧ Below w.heap.size w w' := by
 go_enter Try.func28, Try.ntmps28
 go_wp2
 refine wp_loop_rounds 4 ?_
 rw [rounds_succ]
 go_wp2
 refine bodyPost_ret (v := .agg #[.int .i64 4, .int .i64 0, .int .i64 a2, .int .i64 (-1), .int .i64 (-1), .int .i64 (-1), .int .u64 a6, .int .i64 0]) (by simp [results, Try.results28, go_sem]) rfl ⟨rfl, ?_⟩
 repeat (first | exact Below.refl _ _ | refine below_alloc ?_ _ | refine pw_below_drewN ?_ _ | refine below_drew ?_ | refine Below.setCell ?_ (by simp <;> omega) _)
set_option maxHeartbeats 4000000 in
set_option maxRecDepth 100000 in
theorem bare_5a (a1 a2 a3 a4 a5 a6 a7 : Int) (h : 0 ≤ a3) (w : World) :
  Calls Try.prog 28 #[.agg #[.int .i64 5, .int .i64 a1, .int .i64 a2, .int .i64 a3, .int .i64 a4, .int .i64 a5, .int .u64 a6, .int .i64 a7]] w fun e w' => e = .returned (.agg #[.int .i64 5, .int .i64 0, .int .i64 (-1), .int .i64 a3, .int .i64 a4, .int .i64 (-1), .int .u64 a6, .int .i64 0]) ∧ Below w.heap.size w w' := by
 go_enter Try.func28, Try.ntmps28
 go_wp2
 refine wp_loop_rounds 4 ?_
 rw [rounds_succ]
 go_wp2
 rw [rounds_succ]
 go_wp2
 rw [rounds_succ]
 go_wp2
 refine bodyPost_ret (v := .agg #[.int .i64 5, .int .i64 0, .int .i64 (-1), .int .i64 a3, .int .i64 a4, .int .i64 (-1), .int .u64 a6, .int .i64 0]) (by simp [results, Try.results28, go_sem]) rfl ⟨rfl, ?_⟩
 repeat (first | exact Below.refl _ _ | refine below_alloc ?_ _ | refine pw_below_drewN ?_ _ | refine below_drew ?_ | refine Below.setCell ?_ (by simp <;> omega) _)
set_option maxHeartbeats 4000000 in
set_option maxRecDepth 100000 in
theorem bare_5b (a1 a2 a3 a4 a5 a6 a7 : Int) (h : a3 < 0) (w : World) :
  Calls Try.prog 28 #[.agg #[.int .i64 5, .int .i64 a1, .int .i64 a2, .int .i64 a3, .int .i64 a4, .int .i64 a5, .int .u64 a6, .int .i64 a7]] w fun e w' => e = .returned (.agg #[.int .i64 5, .int .i64 0, .int .i64 (-1), .int .i64 (-1), .int .i64 a4, .int .i64 (-1), .int .u64 a6, .int .i64 0]) ∧ Below w.heap.size w w' := by
 go_enter Try.func28, Try.ntmps28
 go_wp2
 refine bodyPost_ret (v := .agg #[.int .i64 5, .int .i64 0, .int .i64 (-1), .int .i64 (-1), .int .i64 a4, .int .i64 (-1), .int .u64 a6, .int .i64 0]) (by simp [results, Try.results28, go_sem]) rfl ⟨rfl, ?_⟩
 repeat (first | exact Below.refl _ _ | refine below_alloc ?_ _ | refine pw_below_drewN ?_ _ | refine below_drew ?_ | refine Below.setCell ?_ (by simp <;> omega) _)
set_option maxHeartbeats 4000000 in
set_option maxRecDepth 100000 in
theorem bare_6 (a1 a2 a3 a4 a5 a6 a7 : Int)  (w : World) :
  Calls Try.prog 28 #[.agg #[.int .i64 6, .int .i64 a1, .int .i64 a2, .int .i64 a3, .int .i64 a4, .int .i64 a5, .int .u64 a6, .int .i64 a7]] w fun e w' => e = .returned (.agg #[.int .i64 6, .int .i64 0, .int .i64 (-1), .int .i64 (-1), .int .i64 (-1), .int .i64 (-1), .int .u64 0, .int .i64 a7]) ∧ Below w.heap.size w w' := by
 go_enter Try.func28, Try.ntmps28
 go_wp2
 refine wp_loop_rounds 4 ?_
 rw [rounds_succ]
 go_wp2
 refine bodyPost_ret (v := .agg #[.int .i64 6, .int .i64 0, .int .i64 (-1), .int .i64 (-1), .int .i64 (-1), .int .i64 (-1), .int .u64 0, .int .i64 a7]) (by simp [results, Try.results28, go_sem]) rfl ⟨rfl, ?_⟩
 repeat (first | exact Below.refl _ _ | refine below_alloc ?_ _ | refine pw_below_drewN ?_ _ | refine below_drew ?_ | refine Below.setCell ?_ (by simp <;> omega) _)
set_option maxHeartbeats 4000000 in
set_option maxRecDepth 100000 in
theorem bare_7 (a1 a2 a3 a4 a5 a6 a7 : Int)  (w : World) :
  Calls Try.prog 28 #[.agg #[.int .i64 7, .int .i64 a1, .int .i64 a2, .int .i64 a3, .int .i64 a4, .int .i64 a5, .int .u64 a6, .int .i64 a7]] w fun e w' => e = .returned (.agg #[.int .i64 7, .int .i64 0, .int .i64 (-1), .int .i64 a3, .int .i64 (-1), .int .i64 (-1), .int .u64 0, .int .i64 a7]) ∧ Below w.heap.size w w' := by
 go_enter Try.func28, Try.ntmps28
 go_wp2
 refine wp_loop_rounds 4 ?_
 rw [rounds_succ]
 go_wp2
 rw [rounds_succ]
 go_wp2
 refine bodyPost_ret (v := .agg #[.int .i64 7, .int .i64 0, .int .i64 (-1), .int .i64 a3, .int .i64 (-1), .int .i64 (-1), .int .u64 0, .int .i64 a7]) (by simp [results, Try.results28, go_sem]) rfl ⟨rfl, ?_⟩
 repeat (first | exact Below.refl _ _ | refine below_alloc ?_ _ | refine pw_below_drewN ?_ _ | refine below_drew ?_ | refine Below.setCell ?_ (by simp <;> omega) _)
set_option maxHeartbeats 4000000 in
set_option maxRecDepth 100000 in
theorem bare_8 (a1 a2 a3 a4 a5 a6 a7 : Int)  (w : World) :
  Calls Try.prog 28 #[.agg #[.int .i64 8, .int .i64 a1, .int .i64 a2, .int .i64 a3, .int .i64 a4, .int .i64 a5, .int .u64 a6, .int .i64 a7]] w fun e w' => e = .returned (.agg #[.int .i64 8, .int .i64 0, .int .i64 (-1), .int .i64 (-1), .int .i64 (-1), .int .i64 (-1), .int .u64 a6, .int .i64 0]) ∧ Below w.heap.size w w' := by
 go_enter Try.func28, Try.ntmps28
 go_wp2
 refine wp_loop_rounds 4 ?_
 rw [rounds_succ]
 go_wp2
 refine bodyPost_ret (v := .agg #[.int .i64 8, .int .i64 0, .int .i64 (-1), .int .i64 (-1), .int .i64 (-1), .int .i64 (-1), .int .u64 a6, .int .i64 0]) (by simp [results, Try.results28, go_sem]) rfl ⟨rfl, ?_⟩
 repeat (first | exact Below.refl _ _ | refine below_alloc ?_ _ | refine pw_below_drewN ?_ _ | refine below_drew ?_ | refine Below.setCell ?_ (by simp <;> omega) _)
set_option maxHeartbeats 4000000 in
set_option maxRecDepth 100000 in
theorem bare_9 (a1 a2 a3 a4 a5 a6 a7 : Int)  (w : World) :
  Calls Try.prog 28 #[.agg #[.int .i64 9, .int .i64 a1, .int .i64 a2, .int .i64 a3, .int .i64 a4, .int .i64 a5, .int .u64 a6, .int .i64 a7]] w fun e w' => e = .returned (.agg #[.int .i64 9, .int .i64 0, .int .i64 (-1), .int .i64 (-1), .int .i64 (-1), .int .i64 (-1), .int .u64 a6, .int .i64 0]) ∧ Below w.heap.size w w' := by
 go_enter Try.func28, Try.ntmps28
 go_wp2
 refine wp_loop_rounds 4 ?_
 rw [rounds_succ]
 go_wp2
 refine bodyPost_ret (v := .agg #[.int .i64 9, .int .i64 0, .int .i64 (-1), .int .i64 (-1), .int .i64 (-1), .int .i64 (-1), .int .u64 a6, .int .i64 0]) (by simp [results, Try.results28, go_sem]) rfl ⟨rfl, ?_⟩
 repeat (first | exact Below.refl _ _ | refine below_alloc ?_ _ | refine pw_below_drewN ?_ _ | refine below_drew ?_ | refine Below.setCell ?_ (by simp <;> omega) _)
set_option maxHeartbeats 4000000 in
set_option maxRecDepth 100000 in
theorem bare_10 (a1 a2 a3 a4 a5 a6 a7 : Int)  (w : World) :
  Calls Try.prog 28 #[.agg #[.int .i64 10, .int .i64 a1, .int .i64 a2, .int .i64 a3, .int .i64 a4, .int .i64 a5, .int .u64 a6, .int .i64 a7]] w fun e w' => e = .returned (.agg #[.int .i64 10, .int .i64 0, .int .i64 (-1), .int .i64 a3, .int .i64 (-1), .int .i64 (-1), .int .u64 a6, .int .i64 0]) ∧ Below w.heap.size w w' := by
 go_enter Try.func28, Try.ntmps28
 go_wp2
 refine wp_loop_rounds 4 ?_
 rw [rounds_succ]
 go_wp2
 rw [rounds_succ]
 go_wp2
 refine bodyPost_ret (v := .agg #[.int .i64 10, .int .i64 0, .int .i64 (-1), .int .i64 a3, .int .i64 (-1), .int .i64 (-1), .int .u64 a6, .int .i64 0]) (by simp [results, Try.results28, go_sem]) rfl ⟨rfl, ?_⟩
 repeat (first | exact Below.refl _ _ | refine below_alloc ?_ _ | refine pw_below_drewN ?_ _ | refine below_drew ?_ | refine Below.setCell ?_ (by simp <;> omega) _)
set_option maxHeartbeats 4000000 in
set_option maxRecDepth 100000 in
theorem bare_11 (a1 a2 a3 a4 a5 a6 a7 : Int)  (w : World) :
  Calls Try.prog 28 #[.agg #[.int .i64 11, .int .i64 a1, .int .i64 a2, .int .i64 a3, .int .i64 a4, .int .i64 a5, .int .u64 a6, .int .i64 a7]] w fun e w' => e = .returned (.agg #[.int .i64 11, .int .i64 0, .int .i64 (-1), .int .i64 (-1), .int .i64 (-1), .int .i64 (-1), .int .u64 0, .int .i64 0]) ∧ Below w.heap.size w w' := by
 go_enter Try.func28, Try.ntmps28
 go_wp2
 refine wp_loop_rounds 4 ?_
 rw [rounds_succ]
 go_wp2
 refine bodyPost_ret (v := .agg #[.int .i64 11, .int .i64 0, .int .i64 (-1), .int .i64 (-1), .int .i64 (-1), .int .i64 (-1), .int .u64 0, .int .i64 0]) (by simp [results, Try.results28, go_sem]) rfl ⟨rfl, ?_⟩
 repeat (first | exact Below.refl _ _ | refine below_alloc ?_ _ | refine pw_below_drewN ?_ _ | refine below_drew ?_ | refine Below.setCell ?_ (by simp <;> omega) _)
set_option maxHeartbeats 4000000 in
set_option maxRecDepth 100000 in
theorem bare_12 (a1 a2 a3 a4 a5 a6 a7 : Int)  (w : World) :
  Calls Try.prog 28 #[.agg #[.int .i64 12, .int .i64 a1, .int .i64 a2, .int .i64 a3, .int .i64 a4, .int .i64 a5, .int .u64 a6, .int .i64 a7]] w fun e w' => e = .returned (.agg #[.int .i64 12, .int .i64 0, .int .i64 (-1), .int .i64 a3, .int .i64 (-1), .int .i64 (-1), .int .u64 0, .int .i64 0]) ∧ Below w.heap.size w w' := by
 go_enter Try.func28, Try.ntmps28
 go_wp2
 refine wp_loop_rounds 4 ?_
 rw [rounds_succ]
 go_wp2
 rw [rounds_succ]
 go_wp2
 refine bodyPost_ret (v := .agg #[.int .i64 12, .int .i64 0, .int .i64 (-1), .int .i64 a3, .int .i64 (-1), .int .i64 (-1), .int .u64 0, .int .i64 0]) (by simp [results, Try.results28, go_sem]) rfl ⟨rfl, ?_⟩
 repeat (first | exact Below.refl _ _ | refine below_alloc ?_ _ | refine pw_below_drewN ?_ _ | refine below_drew ?_ | refine Below.setCell ?_ (by simp <;> omega) _)
set_option maxHeartbeats 4000000 in
set_option maxRecDepth 100000 in
theorem bare_13 (a1 a2 a3 a4 a5 a6 a7 : Int)  (w : World) :
  Calls Try.prog 28 #[.agg #[.int .i64 13, .int .i64 a1, .int .i64 a2, .int .i64 a3, .int .i64 a4, .int .i64 a5, .int .u64 a6, .int .i64 a7]] w fun e w' => e = .returned (.agg #[.int .i64 13, .int .i64 0, .int .i64 (-1), .int .i64 (-1), .int .i64 (-1), .int .i64 (-1), .int .u64 0, .int .i64 0]) ∧ Below w.heap.size w w' := by
 go_enter Try.func28, Try.ntmps28
 go_wp2
 refine wp_loop_rounds 4 ?_
 rw [rounds_succ]
 go_wp2
 refine bodyPost_ret (v := .agg #[.int .i64 13, .int .i64 0, .int .i64 (-1), .int .i64 (-1), .int .i64 (-1), .int .i64 (-1), .int .u64 0, .int .i64 0]) (by simp [results, Try.results28, go_sem]) rfl ⟨rfl, ?_⟩
 repeat (first | exact Below.refl _ _ | refine below_alloc ?_ _ | refine pw_below_drewN ?_ _ | refine below_drew ?_ | refine Below.setCell ?_ (by simp <;> omega) _)
set_option maxHeartbeats 4000000 in
set_option maxRecDepth 100000 in
theorem bare_x (a1 a2 a3 a4 a5 a6 a7 : Int) (a0 : Int) (h0 : (a0 == 0) = false) (h1 : (a0 == 1) = false) (h2 : (a0 == 2) = false) (h3 : (a0 == 3) = false) (h4 : (a0 == 4) = false) (h5 : (a0 == 5) = false) (h6 : (a0 == 6) = false) (h7 : (a0 == 7) = false) (h8 : (a0 == 8) = false) (h9 : (a0 == 9) = false) (h10 : (a0 == 10) = false) (h11 : (a0 == 11) = false) (h12 : (a0 == 12) = false) (h13 : (a0 == 13) = false) (w : World) :
  Calls Try.prog 28 #[.agg #[.int .i64 a0, .int .i64 a1, .int .i64 a2, .int .i64 a3, .int .i64 a4, .int .i64 a5, .int .u64 a6, .int .i64 a7]] w fun e w' => e = .returned (.agg #[.int .i64 a0, .int .i64 0, .int .i64 (-1), .int .i64 (-1), .int .i64 (-1), .int .i64 (-1), .int .u64 0, .int .i64 0]) ∧ Below w.heap.size w w' := by
 go_enter Try.func28, Try.ntmps28
 go_wp2
 refine wp_loop_rounds 4 ?_
 rw [rounds_succ]
 go_wp2
 refine bodyPost_ret (v := .agg #[.int .i64 a0, .int .i64 0, .int .i64 (-1), .int .i64 (-1), .int .i64 (-1), .int .i64 (-1), .int .u64 0, .int .i64 0]) (by simp [results, Try.results28, go_sem]) rfl ⟨rfl, ?_⟩
 repeat (first | exact Below.refl _ _ | refine below_alloc ?_ _ | refine pw_below_drewN ?_ _ | refine below_drew ?_ | refine Below.setCell ?_ (by simp <;> omega) _)
set_option maxRecDepth 100000 in
theorem encode_bare.calls (k : Nat) (a0_0 : Int) (a0_1 : Int) (a0_2 : Int) (a0_3 : Int) (a0_4 : Int) (a0_5 : Int) (a0_6 : Int) (a0_7 : Int) (r1 : Int) (r2 : Int) (r3 : Int) (r4 : Int) (r5 : Int) (r6 : Int) (r7 : Int) (r8 : Int) (w : World) (h : encode_bare.f k a0_0 a0_1 a0_2 a0_3 a0_4 a0_5 a0_6 a0_7 = some (r1, r2, r3, r4, r5, r6, r7, r8)) :
  Calls Try.prog 28 #[.agg #[.int .i64 a0_0, .int .i64 a0_1, .int .i64 a0_2, .int .i64 a0_3, .int .i64 a0_4, .int .i64 a0_5, .int .u64 a0_6, .int .i64 a0_7]] w fun e w' => e = .returned (.agg #[.int .i64 r1, .int .i64 r2, .int .i64 r3, .int .i64 r4, .int .i64 r5, .int .i64 r6, .int .u64 r7, .int .i64 r8]) ∧ Below w.heap.size w w' := by
 replace h : encode_bare.f (k + 4) a0_0 a0_1 a0_2 a0_3 a0_4 a0_5 a0_6 a0_7 = some (r1, r2, r3, r4, r5, r6, r7, r8) := at_rounds (g := fun k => encode_bare.f k a0_0 a0_1 a0_2 a0_3 a0_4 a0_5 a0_6 a0_7) (encode_bare.mono _ _ _ _ _ _ _ _) (Nat.le_add_right k 4) h
 by_cases c0 : a0_0 = 0
 ·
  subst c0
  simp [encode_bare.f, code_Defines.f, encode_bare.j0, encode_bare.j1, encode_bare.j2, encode_bare.j3, mx] at h
  obtain ⟨rfl, rfl, rfl, rfl, rfl, rfl, rfl, rfl⟩ := h
  exact bare_0 a0_1 a0_2 a0_3 a0_4 a0_5 a0_6 a0_7 w
 by_cases c1 : a0_0 = 1
 ·
  subst c1
  simp [encode_bare.f, code_Defines.f, encode_bare.j0, encode_bare.j1, encode_bare.j2, encode_bare.j3, mx] at h
  obtain ⟨rfl, rfl, rfl, rfl, rfl, rfl, rfl, rfl⟩ := h
  exact bare_1 a0_1 a0_2 a0_3 a0_4 a0_5 a0_6 a0_7 w
 by_cases c2 : a0_0 = 2
 ·
  subst c2
  simp [encode_bare.f, code_Defines.f, encode_bare.j0, encode_bare.j1, encode_bare.j2, encode_bare.j3, mx] at h
  obtain ⟨rfl, rfl, rfl, rfl, rfl, rfl, rfl, rfl⟩ := h
  exact bare_2 a0_1 a0_2 a0_3 a0_4 a0_5 a0_6 a0_7 w
 by_cases c3 : a0_0 = 3
 ·
  subst c3
  simp [encode_bare.f, code_Defines.f, encode_bare.j0, encode_bare.j1, encode_bare.j2, encode_bare.j3, mx] at h
  obtain ⟨rfl, rfl, rfl, rfl, rfl, rfl, rfl, rfl⟩ := h
  exact bare_3 a0_1 a0_2 a0_3 a0_4 a0_5 a0_6 a0_7 w
 by_cases c4 : a0_0 = 4
 ·
  subst c4
  by_cases hn : a0_3 < 0
  ·
   have e_ : mx a0_3 (-1) = -1 := by unfold mx; omega
   simp [encode_bare.f, code_Defines.f, encode_bare.j0, encode_bare.j1, encode_bare.j2, encode_bare.j3, mx] at h
   obtain ⟨rfl, rfl, rfl, h4_, rfl, rfl, rfl, rfl⟩ := h
   obtain rfl : r4 = -1 := by omega
   exact bare_4b a0_1 a0_2 a0_3 a0_4 a0_5 a0_6 a0_7 hn w
  ·
   have e_ : mx a0_3 (-1) = a0_3 := by unfold mx; omega
   simp [encode_bare.f, code_Defines.f, encode_bare.j0, encode_bare.j1, encode_bare.j2, encode_bare.j3, mx] at h
   obtain ⟨rfl, rfl, rfl, h4_, rfl, rfl, rfl, rfl⟩ := h
   obtain rfl : r4 = a0_3 := by omega
   exact bare_4a a0_1 a0_2 r4 a0_4 a0_5 a0_6 a0_7 (by omega) w
 by_cases c5 : a0_0 = 5
 ·
  subst c5
  by_cases hn : a0_3 < 0
  ·
   have e_ : mx a0_3 (-1) = -1 := by unfold mx; omega
   simp [encode_bare.f, code_Defines.f, encode_bare.j0, encode_bare.j1, encode_bare.j2, encode_bare.j3, mx] at h
   obtain ⟨rfl, rfl, rfl, h4_, rfl, rfl, rfl, rfl⟩ := h
   obtain rfl : r4 = -1 := by omega
   exact bare_5b a0_1 a0_2 a0_3 a0_4 a0_5 a0_6 a0_7 hn w
  ·
   have e_ : mx a0_3 (-1) = a0_3 := by unfold mx; omega
   simp [encode_bare.f, code_Defines.f, encode_bare.j0, encode_bare.j1, encode_bare.j2, encode_bare.j3, mx] at h
   obtain ⟨rfl, rfl, rfl, h4_, rfl, rfl, rfl, rfl⟩ := h
   obtain rfl : r4 = a0_3 := by omega
   exact bare_5a a0_1 a0_2 r4 a0_4 a0_5 a0_6 a0_7 (by omega) w
 by_cases c6 : a0_0 = 6
 ·
  subst c6
  simp [encode_bare.f, code_Defines.f, encode_bare.j0, encode_bare.j1, encode_bare.j2, encode_bare.j3, mx] at h
  obtain ⟨rfl, rfl, rfl, rfl, rfl, rfl, rfl, rfl⟩ := h
  exact bare_6 a0_1 a0_2 a0_3 a0_4 a0_5 a0_6 a0_7 w
 by_cases c7 : a0_0 = 7
 ·
  subst c7
  simp [encode_bare.f, code_Defines.f, encode_bare.j0, encode_bare.j1, encode_bare.j2, encode_bare.j3, mx] at h
  obtain ⟨rfl, rfl, rfl, rfl, rfl, rfl, rfl, rfl⟩ := h
  exact bare_7 a0_1 a0_2 a0_3 a0_4 a0_5 a0_6 a0_7 w
 by_cases c8 : a0_0 = 8
 ·
  subst c8
  simp [encode_bare.f, code_Defines.f, encode_bare.j0, encode_bare.j1, encode_bare.j2, encode_bare.j3, mx] at h
  obtain ⟨rfl, rfl, rfl, rfl, rfl, rfl, rfl, rfl⟩ := h
  exact bare_8 a0_1 a0_2 a0_3 a0_4 a0_5 a0_6 a0_7 w
 by_cases c9 : a0_0 = 9
 ·
  subst c9
  simp [encode_bare.f, code_Defines.f, encode_bare.j0, encode_bare.j1, encode_bare.j2, encode_bare.j3, mx] at h
  obtain ⟨rfl, rfl, rfl, rfl, rfl, rfl, rfl, rfl⟩ := h
  exact bare_9 a0_1 a0_2 a0_3 a0_4 a0_5 a0_6 a0_7 w
 by_cases c10 : a0_0 = 10
 ·
  subst c10
  simp [encode_bare.f, code_Defines.f, encode_bare.j0, encode_bare.j1, encode_bare.j2, encode_bare.j3, mx] at h
  obtain ⟨rfl, rfl, rfl, rfl, rfl, rfl, rfl, rfl⟩ := h
  exact bare_10 a0_1 a0_2 a0_3 a0_4 a0_5 a0_6 a0_7 w
 by_cases c11 : a0_0 = 11
 ·
  subst c11
  simp [encode_bare.f, code_Defines.f, encode_bare.j0, encode_bare.j1, encode_bare.j2, encode_bare.j3, mx] at h
  obtain ⟨rfl, rfl, rfl, rfl, rfl, rfl, rfl, rfl⟩ := h
  exact bare_11 a0_1 a0_2 a0_3 a0_4 a0_5 a0_6 a0_7 w
 by_cases c12 : a0_0 = 12
 ·
  subst c12
  simp [encode_bare.f, code_Defines.f, encode_bare.j0, encode_bare.j1, encode_bare.j2, encode_bare.j3, mx] at h
  obtain ⟨rfl, rfl, rfl, rfl, rfl, rfl, rfl, rfl⟩ := h
  exact bare_12 a0_1 a0_2 a0_3 a0_4 a0_5 a0_6 a0_7 w
 by_cases c13 : a0_0 = 13
 ·
  subst c13
  simp [encode_bare.f, code_Defines.f, encode_bare.j0, encode_bare.j1, encode_bare.j2, encode_bare.j3, mx] at h
  obtain ⟨rfl, rfl, rfl, rfl, rfl, rfl, rfl, rfl⟩ := h
  exact bare_13 a0_1 a0_2 a0_3 a0_4 a0_5 a0_6 a0_7 w
 simp [encode_bare.f, code_Defines.f, encode_bare.j0, encode_bare.j1, encode_bare.j2, encode_bare.j3, mx, c0, c1, c2, c3, c4, c5, c6, c7, c8, c9, c10, c11, c12, c13] at h
 obtain ⟨rfl, rfl, rfl, rfl, rfl, rfl, rfl, rfl⟩ := h
 exact bare_x a0_1 a0_2 a0_3 a0_4 a0_5 a0_6 a0_7 a0_0 (beq_eq_false_iff_ne.mpr c0) (beq_eq_false_iff_ne.mpr c1) (beq_eq_false_iff_ne.mpr c2) (beq_eq_false_iff_ne.mpr c3) (beq_eq_false_iff_ne.mpr c4) (beq_eq_false_iff_ne.mpr c5) (beq_eq_false_iff_ne.mpr c6) (beq_eq_false_iff_ne.mpr c7) (beq_eq_false_iff_ne.mpr c8) (beq_eq_false_iff_ne.mpr c9) (beq_eq_false_iff_ne.mpr c10) (beq_eq_false_iff_ne.mpr c11) (beq_eq_false_iff_ne.mpr c12) (beq_eq_false_iff_ne.mpr c13) w

end Go.Proofs.Ytaenjbhhpdmhgaa.PTsoScript
