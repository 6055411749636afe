/-
For TsoScript: what the Go functions that it reaches compute, as plain Lean functions, and the walks that show it; conditions as each theorem states them. (Written by a program of this session on the kit's print.)
-/
import Derived.Test.YtaenjbhhpdmhgaaWSized
import Derived.Test.YtaenjbhhpdmhgaaPTsoScriptx7
import Derived.Test.YtaenjbhhpdmhgaaPTsoScriptx8
-- PRINTED by print.py (a twelfth state) out of the translation. Not trusted: Lean checks it.
namespace Go.Proofs.Ytaenjbhhpdmhgaa.PTsoScript
open Go.RowKit Go.Proofs.YtaenjbhhpdmhgaaW.PrintWords Go.Proofs.YtaenjbhhpdmhgaaW.PrintLast Go.Proofs.YtaenjbhhpdmhgaaW.PrintMore
attribute [local go_sem] max2_int min2_int max_two min_two max_three min_three max_four min_four   -- for this text's walks alone
set_option linter.unusedVariables false
set_option linter.unusedSimpArgs false

/-! ### tautochronelaw20_Make: function 36 -/
def tautochronelaw20_Make.j0 : Nat → Bool → Int → Int → Int → Int → Int → Int → Int → Int → Option (Int × Int × Int × Int × Int × Int × Int × Int)
 | 0, _, _, _, _, _, _, _, _, _ => none
 | k + 1, x34, x211000, x211001, x211002, x211003, x211004, x211005, x211006, x211007 => if x34 = true then ((tautochronelaw20_rest.f x211003 9).bind fun t218 => ((tautochronelaw20_bare.f k x211000 x211001 x211002 (wrap64 (t218 - 1)) x211004 x211005 x211006 x211007).bind fun bt219 => (some (bt219.1, bt219.2.1, bt219.2.2.1, bt219.2.2.2.1, bt219.2.2.2.2.1, bt219.2.2.2.2.2.1, bt219.2.2.2.2.2.2.1, bt219.2.2.2.2.2.2.2)))) else ((tautochronelaw20_rest.f x211003 8).bind fun t227 => ((tautochronelaw20_bare.f k x211000 x211001 x211002 t227 x211004 x211005 x211006 x211007).bind fun bt228 => (some (bt228.1, bt228.2.1, bt228.2.2.1, bt228.2.2.2.1, bt228.2.2.2.2.1, bt228.2.2.2.2.2.1, bt228.2.2.2.2.2.2.1, bt228.2.2.2.2.2.2.2))))
def tautochronelaw20_Make.f (k : Nat) (a0_0 : Int) (a0_1 : Int) (a0_2 : Int) (a0_3 : Int) (a0_4 : Int) (a0_5 : Int) (a0_6 : Int) (a0_7 : Int) : Option (Int × Int × Int × Int × Int × Int × Int × Int) := (tautochronelaw20_rest.f a0_0 14).bind fun t212 => ((tautochronelaw20_rest.f a0_1 10).bind fun t213 => ((tautochronelaw20_rest.f a0_2 8).bind fun t214 => ((tautochronelaw20_rest.f a0_4 8).bind fun t215 => ((tautochronelaw20_rest.f a0_5 8).bind fun t216 => ((tautochronelaw20_rest.f a0_7 65536).bind fun t217 => (if t212 = 4 then (tautochronelaw20_Make.j0 k true t212 t213 t214 a0_3 t215 t216 a0_6 t217) else (tautochronelaw20_Make.j0 k (t212 == 5) t212 t213 t214 a0_3 t215 t216 a0_6 t217)))))))
theorem tautochronelaw20_Make.mono_l : ∀ k, (∀ y0 y1 y2 y3 y4 y5 y6 y7 y8, LeO (tautochronelaw20_Make.j0 k y0 y1 y2 y3 y4 y5 y6 y7 y8) (tautochronelaw20_Make.j0 (k + 1) y0 y1 y2 y3 y4 y5 y6 y7 y8))
 | 0 => fun _ _ _ _ _ _ _ _ _ r h => by simp [tautochronelaw20_Make.j0] at h
 | k + 1 => by
  have ih0 := tautochronelaw20_Make.mono_l k
  ·
   intro y0 y1 y2 y3 y4 y5 y6 y7 y8
   unfold tautochronelaw20_Make.j0
   repeat' first
   | (with_reducible exact ih0 _ _ _ _ _ _ _ _ _)
   | (with_reducible exact tautochronelaw20_bare.mono _ _ _ _ _ _ _ _ _)
   | (with_reducible exact LeO.refl _)
   | (with_reducible exact LeO.none _)
   | (with_reducible refine LeO.ite ?_ ?_)
   | (with_reducible refine LeO.bind ?_ (fun _ => ?_))
   | exact ih0 _ _ _ _ _ _ _ _ _
   | exact tautochronelaw20_bare.mono _ _ _ _ _ _ _ _ _
   | exact LeO.none _
   | refine LeO.ite ?_ ?_
   | refine LeO.bind ?_ (fun _ => ?_)
theorem tautochronelaw20_Make.mono : ∀ a0 a1 a2 a3 a4 a5 a6 a7 k, LeO (tautochronelaw20_Make.f k a0 a1 a2 a3 a4 a5 a6 a7) (tautochronelaw20_Make.f (k + 1) a0 a1 a2 a3 a4 a5 a6 a7) := by
 intro a0 a1 a2 a3 a4 a5 a6 a7 k
 have ih0 := tautochronelaw20_Make.mono_l k
 unfold tautochronelaw20_Make.f
 repeat' first
   | (with_reducible exact ih0 _ _ _ _ _ _ _ _ _)
   | (with_reducible exact tautochronelaw20_bare.mono _ _ _ _ _ _ _ _ _)
   | (with_reducible exact LeO.refl _)
   | (with_reducible exact LeO.none _)
   | (with_reducible refine LeO.ite ?_ ?_)
   | (with_reducible refine LeO.bind ?_ (fun _ => ?_))
   | exact ih0 _ _ _ _ _ _ _ _ _
   | exact tautochronelaw20_bare.mono _ _ _ _ _ _ _ _ _
   | exact LeO.none _
   | refine LeO.ite ?_ ?_
   | refine LeO.bind ?_ (fun _ => ?_)
def tautochronelaw20_Make.T1 : Bool × List (List Nat × List Nat) := (true, [([], []), ([0], [0]), ([1], [1]), ([], []), ([3], [3]), ([4, 2], [4]), ([0, 1, 2, 3, 4], []), ([6, 2, 5, 0, 1, 2, 3, 4], [2, 6]), ([0, 1, 2, 3, 4, 5, 6, 7], []), ([8, 5, 7, 0, 1, 2, 3, 4, 5, 6, 7], [5, 8])])
def tautochronelaw20_Make.B1 : List Nat := [0, 1, 3, 0, 8, 31, 31, 127, 255, 511]
theorem tautochronelaw20_Make.tab1 : rtab .any (opsOf Try.f36 1) = tautochronelaw20_Make.T1 := by kernel_rfl
theorem tautochronelaw20_Make.bits1 : waitsOk tautochronelaw20_Make.T1.2 tautochronelaw20_Make.B1 = true := by kernel_rfl
def tautochronelaw20_Make.T2 : Bool × List (List Nat × List Nat) := (true, [([], []), ([0], [0]), ([1], [1]), ([], []), ([3], [3]), ([4, 2], [4]), ([], []), ([6], [6]), ([7, 5], [7]), ([], []), ([9], [9]), ([10, 8], [10]), ([0, 1, 2, 3, 4, 6, 7, 9, 10], []), ([12, 2, 11, 0, 1, 2, 3, 4, 6, 7, 9, 10], [2, 12]), ([0, 1, 2, 3, 4, 5, 6, 7, 9, 10, 12, 13], []), ([14, 5, 13, 0, 1, 2, 3, 4, 5, 6, 7, 9, 10, 12, 13], [5, 14]), ([0, 1, 2, 3, 4, 5, 6, 7, 8, 9, 10, 12, 13, 14, 15], []), ([16, 8, 15, 0, 1, 2, 3, 4, 5, 6, 7, 8, 9, 10, 12, 13, 14, 15], [8, 16]), ([0, 1, 2, 3, 4, 5, 6, 7, 8, 9, 10, 11, 12, 13, 14, 15, 16, 17], []), ([18, 11, 17, 0, 1, 2, 3, 4, 5, 6, 7, 8, 9, 10, 11, 12, 13, 14, 15, 16, 17], [11, 18])])
def tautochronelaw20_Make.B2 : List Nat := [0, 1, 3, 0, 8, 31, 0, 64, 255, 0, 512, 2047, 1759, 8191, 16383, 32767, 65535, 131071, 262143, 524287]
theorem tautochronelaw20_Make.tab2 : rtab .any (opsOf Try.f36 2) = tautochronelaw20_Make.T2 := by kernel_rfl
theorem tautochronelaw20_Make.bits2 : waitsOk tautochronelaw20_Make.T2.2 tautochronelaw20_Make.B2 = true := by kernel_rfl
set_option maxHeartbeats 8000000 in
set_option maxRecDepth 100000 in
theorem tautochronelaw20_Make.calls (k : Nat) (a0_0 : Int) (a0_1 : Int) (a0_2 : Int) (a0_3 : Int) (a0_4 : Int) (a0_5 : Int) (a0_6 : Int) (a0_7 : Int) (r1 : Int) (r2 : Int) (r3 : Int) (r4 : Int) (r5 : Int) (r6 : Int) (r7 : Int) (r8 : Int) (w : World) (h : tautochronelaw20_Make.f k a0_0 a0_1 a0_2 a0_3 a0_4 a0_5 a0_6 a0_7 = some (r1, r2, r3, r4, r5, r6, r7, r8)) :
  Calls Try.prog 36 #[.agg #[.int .i64 a0_0, .int .i64 a0_1, .int .i64 a0_2, .int .i64 a0_3, .int .i64 a0_4, .int .i64 a0_5, .int .u64 a0_6, .int .i64 a0_7]] w fun e w' => e = .returned (.agg #[.int .i64 r1, .int .i64 r2, .int .i64 r3, .int .i64 r4, .int .i64 r5, .int .i64 r6, .int .u64 r7, .int .i64 r8]) ∧ Below w.heap.size w w' := by
 have hu28 := Try.underlying28
 have HB := Aside0.mk (Below.refl w.heap.size w)
 have H : ((tautochronelaw20_rest.f a0_0 14).bind fun t212 => ((tautochronelaw20_rest.f a0_1 10).bind fun t213 => ((tautochronelaw20_rest.f a0_2 8).bind fun t214 => ((tautochronelaw20_rest.f a0_4 8).bind fun t215 => ((tautochronelaw20_rest.f a0_5 8).bind fun t216 => ((tautochronelaw20_rest.f a0_7 65536).bind fun t217 => (if t212 = 4 then (tautochronelaw20_Make.j0 k true t212 t213 t214 a0_3 t215 t216 a0_6 t217) else (tautochronelaw20_Make.j0 k (t212 == 5) t212 t213 t214 a0_3 t215 t216 a0_6 t217)))))))) = some (r1, r2, r3, r4, r5, r6, r7, r8) := h
 clear h
 replace H := Option.bind_eq_some_iff.mp H
 obtain ⟨t212, A20, H⟩ := H
 replace H : ((tautochronelaw20_rest.f a0_1 10).bind fun t213 => ((tautochronelaw20_rest.f a0_2 8).bind fun t214 => ((tautochronelaw20_rest.f a0_4 8).bind fun t215 => ((tautochronelaw20_rest.f a0_5 8).bind fun t216 => ((tautochronelaw20_rest.f a0_7 65536).bind fun t217 => (if t212 = 4 then (tautochronelaw20_Make.j0 k true t212 t213 t214 a0_3 t215 t216 a0_6 t217) else (tautochronelaw20_Make.j0 k (t212 == 5) t212 t213 t214 a0_3 t215 t216 a0_6 t217))))))) = some (r1, r2, r3, r4, r5, r6, r7, r8) := H
 have A2 := Aside0.mk A20
 clear A20
 replace H := Option.bind_eq_some_iff.mp H
 obtain ⟨t213, A30, H⟩ := H
 replace H : ((tautochronelaw20_rest.f a0_2 8).bind fun t214 => ((tautochronelaw20_rest.f a0_4 8).bind fun t215 => ((tautochronelaw20_rest.f a0_5 8).bind fun t216 => ((tautochronelaw20_rest.f a0_7 65536).bind fun t217 => (if t212 = 4 then (tautochronelaw20_Make.j0 k true t212 t213 t214 a0_3 t215 t216 a0_6 t217) else (tautochronelaw20_Make.j0 k (t212 == 5) t212 t213 t214 a0_3 t215 t216 a0_6 t217)))))) = some (r1, r2, r3, r4, r5, r6, r7, r8) := H
 have A3 := Aside0.mk A30
 clear A30
 replace H := Option.bind_eq_some_iff.mp H
 obtain ⟨t214, A40, H⟩ := H
 replace H : ((tautochronelaw20_rest.f a0_4 8).bind fun t215 => ((tautochronelaw20_rest.f a0_5 8).bind fun t216 => ((tautochronelaw20_rest.f a0_7 65536).bind fun t217 => (if t212 = 4 then (tautochronelaw20_Make.j0 k true t212 t213 t214 a0_3 t215 t216 a0_6 t217) else (tautochronelaw20_Make.j0 k (t212 == 5) t212 t213 t214 a0_3 t215 t216 a0_6 t217))))) = some (r1, r2, r3, r4, r5, r6, r7, r8) := H
 have A4 := Aside0.mk A40
 clear A40
 replace H := Option.bind_eq_some_iff.mp H
 obtain ⟨t215, A50, H⟩ := H
 replace H : ((tautochronelaw20_rest.f a0_5 8).bind fun t216 => ((tautochronelaw20_rest.f a0_7 65536).bind fun t217 => (if t212 = 4 then (tautochronelaw20_Make.j0 k true t212 t213 t214 a0_3 t215 t216 a0_6 t217) else (tautochronelaw20_Make.j0 k (t212 == 5) t212 t213 t214 a0_3 t215 t216 a0_6 t217)))) = some (r1, r2, r3, r4, r5, r6, r7, r8) := H
 have A5 := Aside0.mk A50
 clear A50
 replace H := Option.bind_eq_some_iff.mp H
 obtain ⟨t216, A60, H⟩ := H
 replace H : ((tautochronelaw20_rest.f a0_7 65536).bind fun t217 => (if t212 = 4 then (tautochronelaw20_Make.j0 k true t212 t213 t214 a0_3 t215 t216 a0_6 t217) else (tautochronelaw20_Make.j0 k (t212 == 5) t212 t213 t214 a0_3 t215 t216 a0_6 t217))) = some (r1, r2, r3, r4, r5, r6, r7, r8) := H
 have A6 := Aside0.mk A60
 clear A60
 replace H := Option.bind_eq_some_iff.mp H
 obtain ⟨t217, A70, H⟩ := H
 replace H : (if t212 = 4 then (tautochronelaw20_Make.j0 k true t212 t213 t214 a0_3 t215 t216 a0_6 t217) else (tautochronelaw20_Make.j0 k (t212 == 5) t212 t213 t214 a0_3 t215 t216 a0_6 t217)) = some (r1, r2, r3, r4, r5, r6, r7, r8) := H
 have A7 := Aside0.mk A70
 clear A70
 have HC8 := Aside0.mk H
 clear H
 go_enter Try.func36, Try.ntmps36
 try go_wp2_with (first | ((with_reducible refine gate_dst (N := 1) rfl ?_); refine box_event ?hg (N := 1) ?hd (cs := #[.int .i64 a0_0, .int .i64 a0_1, .int .i64 a0_2, .int .i64 a0_3, .int .i64 a0_4, .int .i64 a0_5, .int .u64 a0_6, .int .i64 a0_7]) (t := 28) ?hr ?_; (case hd => rfl); (case hg => rfl); (case hr => first | (go_simp; done) | (go_simp; rfl)); intro gb210 hg w9 hbox hb; have n0_ := Aside0.mk (below_step (by repeat (first | (with_reducible first | exact HB.out | apply below_alloc | apply pw_below_drewN | apply below_drew1) | exact HB.out)) hb); have n1_ := Aside0.mk (hbox); have n2_ := Aside0.mk ((by rw [hg]; exact (below_size (by repeat (first | (with_reducible first | exact HB.out | apply below_alloc | apply pw_below_drewN | apply below_drew1) | exact HB.out))) : w.heap.size ≤ gb210)); have n3_ := Aside0.mk ((by rw [hg]; exact (below_size (by repeat (first | (with_reducible first | exact HB.out | apply below_alloc | apply pw_below_drewN | apply below_drew1) | exact HB.out))) : w.heap.size ≤ gb210)); clear HB; have HB := n0_; have BK210 := n1_; have GW210 := n2_; have GE210 := n3_; clear n0_ n1_ n2_ n3_; clear hb hbox hg) | ((with_reducible refine gate_dst (N := 2) rfl ?_); refine box_event ?hg (N := 2) ?hd (cs := #[.int .i64 0, .int .i64 0, .int .i64 0, .int .i64 0, .int .i64 0, .int .i64 0, .int .u64 0, .int .i64 0]) (t := 28) ?hr ?_; (case hd => rfl); (case hg => rfl); (case hr => first | (go_simp; done) | (go_simp; rfl)); intro gb211 hg w10 hbox hb; have n0_ := Aside0.mk (blk_below (g := gb210) (o := .cells #[.int .i64 a0_0, .int .i64 a0_1, .int .i64 a0_2, .int .i64 a0_3, .int .i64 a0_4, .int .i64 a0_5, .int .u64 a0_6, .int .i64 a0_7] 28 (0, 0)) (by (with_reducible repeat (first | refine blk_drewN ?_ _ | refine blk_drew ?_ | refine blk_alloc ?_ _)); exact BK210.out) hb); have n1_ := Aside0.mk (below_step (by repeat (first | (with_reducible first | exact HB.out | apply below_alloc | apply pw_below_drewN | apply below_drew1 | refine below_set ?_ GE210.out) | exact HB.out)) hb); have n2_ := Aside0.mk (hbox); have n3_ := Aside0.mk ((by rw [hg]; exact (below_size (by repeat (first | (with_reducible first | exact HB.out | apply below_alloc | apply pw_below_drewN | apply below_drew1 | refine below_set ?_ GE210.out) | exact HB.out))) : w.heap.size ≤ gb211)); have n4_ := Aside0.mk ((by rw [hg]; exact (below_size (by repeat (first | (with_reducible first | exact HB.out | apply below_alloc | apply pw_below_drewN | apply below_drew1 | refine below_set ?_ GE210.out) | exact HB.out))) : w.heap.size ≤ gb211)); have n5_ := Aside0.mk ((by rw [hg]; exact Nat.ne_of_lt (blk_lt (g := gb210) (o := .cells #[.int .i64 a0_0, .int .i64 a0_1, .int .i64 a0_2, .int .i64 a0_3, .int .i64 a0_4, .int .i64 a0_5, .int .u64 a0_6, .int .i64 a0_7] 28 (0, 0)) (by (with_reducible repeat (first | refine blk_drewN ?_ _ | refine blk_drew ?_ | refine blk_alloc ?_ _)); exact BK210.out)) : gb210 ≠ gb211)); have n6_ := Aside0.mk ((by rw [hg]; exact Nat.ne_of_gt (blk_lt (g := gb210) (o := .cells #[.int .i64 a0_0, .int .i64 a0_1, .int .i64 a0_2, .int .i64 a0_3, .int .i64 a0_4, .int .i64 a0_5, .int .u64 a0_6, .int .i64 a0_7] 28 (0, 0)) (by (with_reducible repeat (first | refine blk_drewN ?_ _ | refine blk_drew ?_ | refine blk_alloc ?_ _)); exact BK210.out)) : gb211 ≠ gb210)); clear BK210; clear HB; have BK210 := n0_; have HB := n1_; have BK211 := n2_; have GW211 := n3_; have GE211 := n4_; have NB210_211 := n5_; have NB211_210 := n6_; clear n0_ n1_ n2_ n3_ n4_ n5_ n6_; clear hb hbox hg))
 have n0_ := Aside0.mk (blk_drew BK210.out)
 have n1_ := Aside0.mk (blk_drew BK211.out)
 have n2_ := Aside0.mk (below_drew1 HB.out)
 clear BK210
 clear BK211
 clear HB
 have BK210 := n0_
 have BK211 := n1_
 have HB := n2_
 clear n0_ n1_ n2_
 refine start_ (n := 10) (S := fun w' => w'.cell? ⟨gb210, 0, none⟩ = some (.int .i64 a0_0) ∧ w'.cell? ⟨gb210, 1, none⟩ = some (.int .i64 a0_1) ∧ w'.cell? ⟨gb210, 2, none⟩ = some (.int .i64 a0_2) ∧ w'.cell? ⟨gb210, 3, none⟩ = some (.int .i64 a0_3) ∧ w'.cell? ⟨gb210, 4, none⟩ = some (.int .i64 a0_4) ∧ w'.cell? ⟨gb210, 5, none⟩ = some (.int .i64 a0_5) ∧ w'.cell? ⟨gb210, 6, none⟩ = some (.int .u64 a0_6) ∧ w'.cell? ⟨gb210, 7, none⟩ = some (.int .i64 a0_7)) (ds := [7, 9]) #[false, false, false, false, false, false, false, false, false, false] (by kernel_rfl) rfl rfl ⟨(blk_cell BK210.out 0).trans rfl, (blk_cell BK210.out 1).trans rfl, (blk_cell BK210.out 2).trans rfl, (blk_cell BK210.out 3).trans rfl, (blk_cell BK210.out 4).trans rfl, (blk_cell BK210.out 5).trans rfl, (blk_cell BK210.out 6).trans rfl, (blk_cell BK210.out 7).trans rfl⟩ (fun hHeld => ?_); refine with_tabW tautochronelaw20_Make.tab1 tautochronelaw20_Make.bits1 (fun HT_ HW_ => ?_)
 generalize w10.drew = w11 at BK210 BK211 HB hHeld ⊢
 refine pure_ (i := 0) (N := some 3) (v := ?_) (a' := ?_) #[true, false, false, false, false, false, false, false, false, false] rfl rfl (any_of HT_.out (by kernel_rfl)) (fun _ _ _ h => h) (Or.inl ⟨by rfl, ?_⟩) ?_ ?_
 rotate_left
 ·
  intro w'
  go_simp
  with_reducible rfl
 rotate_left
 ·
  simp only [Act.put, List.setIfInBounds_toArray, List.set_cons_zero, List.set_cons_succ, i64_w, i32_w]
  rfl
 refine pure_ (i := 3) (N := some 6) (v := ?_) (a' := ?_) #[true, false, false, true, false, false, false, false, false, false] rfl rfl (any_of HT_.out (by kernel_rfl)) (fun _ _ _ h => h) (Or.inl ⟨by rfl, ?_⟩) ?_ ?_
 rotate_left
 ·
  intro w'
  go_simp
  with_reducible rfl
 rotate_left
 ·
  simp only [Act.put, List.setIfInBounds_toArray, List.set_cons_zero, List.set_cons_succ, i64_w, i32_w]
  rfl
 refine take_ (i := 1) (N := some 4) (v := ?_) (a' := ?_) #[true, true, false, true, false, false, false, false, false, false] rfl rfl (take_ofW HT_.out HW_.out (by kernel_rfl)) (fun _ _ _ h => h) (Or.inl ⟨by rfl, ?_⟩) hHeld ?_ ?_
 rotate_left
 ·
  rintro w' ⟨s0, s1, s2, s3, s4, s5, s6, s7⟩
  go_simp
  with_reducible rfl
 rotate_left
 ·
  simp only [Act.put, List.setIfInBounds_toArray, List.set_cons_zero, List.set_cons_succ, i64_w, i32_w]
  rfl
 refine take_ (i := 4) (N := some 7) (v := ?_) (a' := ?_) #[true, true, false, true, true, false, false, false, false, false] rfl rfl (take_ofW HT_.out HW_.out (by kernel_rfl)) (fun _ _ _ h => h) (Or.inl ⟨by rfl, ?_⟩) hHeld ?_ ?_
 rotate_left
 ·
  rintro w' ⟨s0, s1, s2, s3, s4, s5, s6, s7⟩
  go_simp
  with_reducible rfl
 rotate_left
 ·
  simp only [Act.put, List.setIfInBounds_toArray, List.set_cons_zero, List.set_cons_succ, i64_w, i32_w]
  rfl
 refine one_ (i := 2) (N := some 5) #[true, true, true, true, true, false, false, false, false, false] rfl rfl (one_of HT_.out (by kernel_rfl)) (by decide) (fun K hK => ?_)
 refine goes_ Try.func52 (by kernel_rfl) rfl #[.int .i64 a0_0, .int .i64 14] (by rfl) rfl rfl (by (try simp only [List.map_toArray, List.map_cons, List.map_nil]); first | done | rfl | (simp only [List.length_drop, List.length_take]; rfl)) ?_
 with_reducible refine (tautochronelaw20_rest.calls a0_0 14 t212 _ A2.out).mono ?_
 rintro e w' ⟨rfl, ⟨nd, rfl⟩⟩
 refine ⟨_, rfl, ?_⟩
 refine hK.out _ _ ⟨(blk_cell BK210.out 0).trans rfl, (blk_cell BK210.out 1).trans rfl, (blk_cell BK210.out 2).trans rfl, (blk_cell BK210.out 3).trans rfl, (blk_cell BK210.out 4).trans rfl, (blk_cell BK210.out 5).trans rfl, (blk_cell BK210.out 6).trans rfl, (blk_cell BK210.out 7).trans rfl⟩ (fun hHeld => ?_)
 clear hK K
 refine norm_ (a' := ?_) ?_ ?_
 rotate_left
 ·
  show Act.put _ (some 5) _ = _
  simp only [Act.put, List.setIfInBounds_toArray, List.set_cons_zero, List.set_cons_succ, i64_w, i32_w]
  rfl
 refine pure_ (i := 6) (N := some 9) (v := ?_) (a' := ?_) #[true, true, true, true, true, false, true, false, false, false] rfl rfl (any_of HT_.out (by kernel_rfl)) (fun _ _ _ h => h) (Or.inl ⟨by rfl, ?_⟩) ?_ ?_
 rotate_left
 ·
  intro w'
  go_simp
  with_reducible rfl
 rotate_left
 ·
  simp only [Act.put, List.setIfInBounds_toArray, List.set_cons_zero, List.set_cons_succ, i64_w, i32_w]
  rfl
 refine one_ (i := 5) (N := some 8) #[true, true, true, true, true, true, true, false, false, false] rfl rfl (one_of HT_.out (by kernel_rfl)) (by decide) (fun K hK => ?_)
 refine goes_ Try.func52 (by kernel_rfl) rfl #[.int .i64 a0_1, .int .i64 10] (by rfl) rfl rfl (by (try simp only [List.map_toArray, List.map_cons, List.map_nil]); first | done | rfl | (simp only [List.length_drop, List.length_take]; rfl)) ?_
 with_reducible refine (tautochronelaw20_rest.calls a0_1 10 t213 _ A3.out).mono ?_
 rintro e w' ⟨rfl, ⟨nd, rfl⟩⟩
 refine ⟨_, rfl, ?_⟩
 refine hK.out _ _ ⟨(blk_cell BK210.out 0).trans rfl, (blk_cell BK210.out 1).trans rfl, (blk_cell BK210.out 2).trans rfl, (blk_cell BK210.out 3).trans rfl, (blk_cell BK210.out 4).trans rfl, (blk_cell BK210.out 5).trans rfl, (blk_cell BK210.out 6).trans rfl, (blk_cell BK210.out 7).trans rfl⟩ (fun hHeld => ?_)
 clear hK K
 refine norm_ (a' := ?_) ?_ ?_
 rotate_left
 ·
  show Act.put _ (some 8) _ = _
  simp only [Act.put, List.setIfInBounds_toArray, List.set_cons_zero, List.set_cons_succ, i64_w, i32_w]
  rfl
 refine last_ (i := 7) (N := none) #[true, true, true, true, true, true, true, true, false, false] rfl rfl (one_of HT_.out (by kernel_rfl)) (by decide) (fun K hK => ?_)
 have hs12 : w11.cell? ⟨gb210, 0, none⟩ = some (.int .i64 a0_0) := (blk_cell BK210.out 0).trans rfl
 have hfs12 := blk_frozen BK210.out 0
 have hns12_1 := NB211_210.out
 have hms12_1 := NB210_211.out
 refine skip_ (w1 := ?_) (by rfl) rfl ?_ ?_
 rotate_left
 ·
  go_simp
  rfl
 refine hK.out _ _ ?_
 clear hK K
 refine pure_ (i := 8) (N := some 10) (v := ?_) (a' := ?_) #[true, true, true, true, true, true, true, true, true, false] rfl rfl (any_of HT_.out (by kernel_rfl)) (fun _ _ _ h => h) (Or.inl ⟨by rfl, ?_⟩) ?_ ?_
 rotate_left
 ·
  intro w'
  go_simp
  with_reducible rfl
 rotate_left
 ·
  simp only [Act.put, List.setIfInBounds_toArray, List.set_cons_zero, List.set_cons_succ, i64_w, i32_w]
  rfl
 refine last_ (i := 9) (N := none) #[true, true, true, true, true, true, true, true, true, true] rfl rfl (one_of HT_.out (by kernel_rfl)) (by decide) (fun K hK => ?_)
 have hs13 : w11.cell? ⟨gb210, 1, none⟩ = some (.int .i64 a0_1) := (blk_cell BK210.out 1).trans rfl
 have hfs13 := blk_frozen BK210.out 1
 have hns13_1 := NB211_210.out
 have hms13_1 := NB210_211.out
 refine skip_ (w1 := ?_) (by rfl) rfl ?_ ?_
 rotate_left
 ·
  go_simp
  rfl
 refine hK.out _ _ ?_
 clear hK K
 refine done_ (done_of HT_.out (by kernel_rfl)) ?_
 try go_wp2
 (try (rw [drewN_self w11]; generalize hq_ : World.drewN w11 _ = w11; have m0_ := Aside0.mk (blk_at hq_ BK210.out); have m1_ := Aside0.mk (blk_at hq_ BK211.out); have m2_ := Aside0.mk (below_at hq_ HB.out); clear hq_ BK210 BK211 HB; have BK210 := m0_; have BK211 := m1_; have HB := m2_; clear m0_ m1_ m2_))
 have n0_ : Aside0 (((w11.setCell ⟨gb210, 0, none⟩ (.int .i64 t212)).setCell ⟨gb210, 1, none⟩ (.int .i64 t213)).heap[gb210]? = some (.cells #[.int .i64 t212, .int .i64 t213, .int .i64 a0_2, .int .i64 a0_3, .int .i64 a0_4, .int .i64 a0_5, .int .u64 a0_6, .int .i64 a0_7] 28 (0, 0))) := ⟨by (with_reducible repeat (first | refine blk_drewN ?_ _ | refine blk_drew ?_ | refine blk_alloc ?_ _)); refine blk_put (cs := #[.int .i64 t212, .int .i64 a0_1, .int .i64 a0_2, .int .i64 a0_3, .int .i64 a0_4, .int .i64 a0_5, .int .u64 a0_6, .int .i64 a0_7]) ?_ 1 _ rfl; (with_reducible repeat (first | refine blk_drewN ?_ _ | refine blk_drew ?_ | refine blk_alloc ?_ _)); refine blk_put (cs := #[.int .i64 a0_0, .int .i64 a0_1, .int .i64 a0_2, .int .i64 a0_3, .int .i64 a0_4, .int .i64 a0_5, .int .u64 a0_6, .int .i64 a0_7]) ?_ 0 _ rfl; (with_reducible repeat (first | refine blk_drewN ?_ _ | refine blk_drew ?_ | refine blk_alloc ?_ _)); exact BK210.out⟩
 have n1_ : Aside0 (((w11.setCell ⟨gb210, 0, none⟩ (.int .i64 t212)).setCell ⟨gb210, 1, none⟩ (.int .i64 t213)).heap[gb211]? = some (.cells #[.int .i64 0, .int .i64 0, .int .i64 0, .int .i64 0, .int .i64 0, .int .i64 0, .int .u64 0, .int .i64 0] 28 (0, 0))) := ⟨by (with_reducible repeat (first | refine blk_drewN ?_ _ | refine blk_drew ?_ | refine blk_alloc ?_ _)); refine blk_far ?_ NB211_210.out _; (with_reducible repeat (first | refine blk_drewN ?_ _ | refine blk_drew ?_ | refine blk_alloc ?_ _)); refine blk_far ?_ NB211_210.out _; (with_reducible repeat (first | refine blk_drewN ?_ _ | refine blk_drew ?_ | refine blk_alloc ?_ _)); exact BK211.out⟩
 have n2_ : Aside0 (Below w.heap.size w ((w11.setCell ⟨gb210, 0, none⟩ (.int .i64 t212)).setCell ⟨gb210, 1, none⟩ (.int .i64 t213))) := ⟨by repeat (first | (with_reducible first | exact HB.out | apply below_alloc | apply pw_below_drewN | apply below_drew1 | refine below_set ?_ GE210.out | refine below_set ?_ GE211.out) | exact HB.out)⟩
 (try clear BK210)
 (try clear BK211)
 (try clear HB)
 generalize ((w11.setCell ⟨gb210, 0, none⟩ (.int .i64 t212)).setCell ⟨gb210, 1, none⟩ (.int .i64 t213)) = w14 at n0_ n1_ n2_ ⊢
 have BK210 := n0_
 have BK211 := n1_
 have HB := n2_
 clear n0_ n1_ n2_
 (try (rw [drewN_self w14]; generalize hq_ : World.drewN w14 _ = w14; have n0_ : Aside0 (w14.heap[gb210]? = some (.cells #[.int .i64 t212, .int .i64 t213, .int .i64 a0_2, .int .i64 a0_3, .int .i64 a0_4, .int .i64 a0_5, .int .u64 a0_6, .int .i64 a0_7] 28 (0, 0))) := ⟨by rw [← hq_]; exact (by (with_reducible repeat (first | refine blk_drewN ?_ _ | refine blk_drew ?_ | refine blk_alloc ?_ _)); exact BK210.out)⟩; have n1_ : Aside0 (w14.heap[gb211]? = some (.cells #[.int .i64 0, .int .i64 0, .int .i64 0, .int .i64 0, .int .i64 0, .int .i64 0, .int .u64 0, .int .i64 0] 28 (0, 0))) := ⟨by rw [← hq_]; exact (by (with_reducible repeat (first | refine blk_drewN ?_ _ | refine blk_drew ?_ | refine blk_alloc ?_ _)); exact BK211.out)⟩; have n2_ : Aside0 (Below w.heap.size w w14) := ⟨by rw [← hq_]; exact (by repeat (first | (with_reducible first | exact HB.out | apply below_alloc | apply pw_below_drewN | apply below_drew1 | refine below_set ?_ GE210.out | refine below_set ?_ GE211.out) | exact HB.out))⟩; clear BK210 BK211 HB hq_; have BK210 := n0_; have BK211 := n1_; have HB := n2_; clear n0_ n1_ n2_))
 have n0_ := Aside0.mk (blk_drew BK210.out)
 have n1_ := Aside0.mk (blk_drew BK211.out)
 have n2_ := Aside0.mk (below_drew1 HB.out)
 clear BK210
 clear BK211
 clear HB
 have BK210 := n0_
 have BK211 := n1_
 have HB := n2_
 clear n0_ n1_ n2_
 refine start_ (n := 20) (S := fun w' => w'.cell? ⟨gb210, 0, none⟩ = some (.int .i64 t212) ∧ w'.cell? ⟨gb210, 1, none⟩ = some (.int .i64 t213) ∧ w'.cell? ⟨gb210, 2, none⟩ = some (.int .i64 a0_2) ∧ w'.cell? ⟨gb210, 3, none⟩ = some (.int .i64 a0_3) ∧ w'.cell? ⟨gb210, 4, none⟩ = some (.int .i64 a0_4) ∧ w'.cell? ⟨gb210, 5, none⟩ = some (.int .i64 a0_5) ∧ w'.cell? ⟨gb210, 6, none⟩ = some (.int .u64 a0_6) ∧ w'.cell? ⟨gb210, 7, none⟩ = some (.int .i64 a0_7)) (ds := [13, 15, 17, 19]) #[false, false, false, false, false, false, false, false, false, false, false, false, false, false, false, false, false, false, false, false] (by kernel_rfl) rfl rfl ⟨(blk_cell BK210.out 0).trans rfl, (blk_cell BK210.out 1).trans rfl, (blk_cell BK210.out 2).trans rfl, (blk_cell BK210.out 3).trans rfl, (blk_cell BK210.out 4).trans rfl, (blk_cell BK210.out 5).trans rfl, (blk_cell BK210.out 6).trans rfl, (blk_cell BK210.out 7).trans rfl⟩ (fun hHeld => ?_); refine with_tabW tautochronelaw20_Make.tab2 tautochronelaw20_Make.bits2 (fun HT_ HW_ => ?_)
 generalize w14.drew = w15 at BK210 BK211 HB hHeld ⊢
 refine pure_ (i := 0) (N := some 11) (v := ?_) (a' := ?_) #[true, false, false, false, false, false, false, false, false, false, false, false, false, false, false, false, false, false, false, false] rfl rfl (any_of HT_.out (by kernel_rfl)) (fun _ _ _ h => h) (Or.inl ⟨by rfl, ?_⟩) ?_ ?_
 rotate_left
 ·
  intro w'
  go_simp
  with_reducible rfl
 rotate_left
 ·
  simp only [Act.put, List.setIfInBounds_toArray, List.set_cons_zero, List.set_cons_succ, i64_w, i32_w]
  rfl
 refine pure_ (i := 3) (N := some 14) (v := ?_) (a' := ?_) #[true, false, false, true, false, false, false, false, false, false, false, false, false, false, false, false, false, false, false, false] rfl rfl (any_of HT_.out (by kernel_rfl)) (fun _ _ _ h => h) (Or.inl ⟨by rfl, ?_⟩) ?_ ?_
 rotate_left
 ·
  intro w'
  go_simp
  with_reducible rfl
 rotate_left
 ·
  simp only [Act.put, List.setIfInBounds_toArray, List.set_cons_zero, List.set_cons_succ, i64_w, i32_w]
  rfl
 refine pure_ (i := 6) (N := some 17) (v := ?_) (a' := ?_) #[true, false, false, true, false, false, true, false, false, false, false, false, false, false, false, false, false, false, false, false] rfl rfl (any_of HT_.out (by kernel_rfl)) (fun _ _ _ h => h) (Or.inl ⟨by rfl, ?_⟩) ?_ ?_
 rotate_left
 ·
  intro w'
  go_simp
  with_reducible rfl
 rotate_left
 ·
  simp only [Act.put, List.setIfInBounds_toArray, List.set_cons_zero, List.set_cons_succ, i64_w, i32_w]
  rfl
 refine pure_ (i := 9) (N := some 20) (v := ?_) (a' := ?_) #[true, false, false, true, false, false, true, false, false, true, false, false, false, false, false, false, false, false, false, false] rfl rfl (any_of HT_.out (by kernel_rfl)) (fun _ _ _ h => h) (Or.inl ⟨by rfl, ?_⟩) ?_ ?_
 rotate_left
 ·
  intro w'
  go_simp
  with_reducible rfl
 rotate_left
 ·
  simp only [Act.put, List.setIfInBounds_toArray, List.set_cons_zero, List.set_cons_succ, i64_w, i32_w]
  rfl
 refine take_ (i := 1) (N := some 12) (v := ?_) (a' := ?_) #[true, true, false, true, false, false, true, false, false, true, false, false, false, false, false, false, false, false, false, false] rfl rfl (take_ofW HT_.out HW_.out (by kernel_rfl)) (fun _ _ _ h => h) (Or.inl ⟨by rfl, ?_⟩) hHeld ?_ ?_
 rotate_left
 ·
  rintro w' ⟨s0, s1, s2, s3, s4, s5, s6, s7⟩
  go_simp
  with_reducible rfl
 rotate_left
 ·
  simp only [Act.put, List.setIfInBounds_toArray, List.set_cons_zero, List.set_cons_succ, i64_w, i32_w]
  rfl
 refine take_ (i := 4) (N := some 15) (v := ?_) (a' := ?_) #[true, true, false, true, true, false, true, false, false, true, false, false, false, false, false, false, false, false, false, false] rfl rfl (take_ofW HT_.out HW_.out (by kernel_rfl)) (fun _ _ _ h => h) (Or.inl ⟨by rfl, ?_⟩) hHeld ?_ ?_
 rotate_left
 ·
  rintro w' ⟨s0, s1, s2, s3, s4, s5, s6, s7⟩
  go_simp
  with_reducible rfl
 rotate_left
 ·
  simp only [Act.put, List.setIfInBounds_toArray, List.set_cons_zero, List.set_cons_succ, i64_w, i32_w]
  rfl
 refine take_ (i := 7) (N := some 18) (v := ?_) (a' := ?_) #[true, true, false, true, true, false, true, true, false, true, false, false, false, false, false, false, false, false, false, false] rfl rfl (take_ofW HT_.out HW_.out (by kernel_rfl)) (fun _ _ _ h => h) (Or.inl ⟨by rfl, ?_⟩) hHeld ?_ ?_
 rotate_left
 ·
  rintro w' ⟨s0, s1, s2, s3, s4, s5, s6, s7⟩
  go_simp
  with_reducible rfl
 rotate_left
 ·
  simp only [Act.put, List.setIfInBounds_toArray, List.set_cons_zero, List.set_cons_succ, i64_w, i32_w]
  rfl
 refine take_ (i := 10) (N := some 21) (v := ?_) (a' := ?_) #[true, true, false, true, true, false, true, true, false, true, true, false, false, false, false, false, false, false, false, false] rfl rfl (take_ofW HT_.out HW_.out (by kernel_rfl)) (fun _ _ _ h => h) (Or.inl ⟨by rfl, ?_⟩) hHeld ?_ ?_
 rotate_left
 ·
  rintro w' ⟨s0, s1, s2, s3, s4, s5, s6, s7⟩
  go_simp
  with_reducible rfl
 rotate_left
 ·
  simp only [Act.put, List.setIfInBounds_toArray, List.set_cons_zero, List.set_cons_succ, i64_w, i32_w]
  rfl
 refine one_ (i := 2) (N := some 13) #[true, true, true, true, true, false, true, true, false, true, true, false, false, false, false, false, false, false, false, false] rfl rfl (one_of HT_.out (by kernel_rfl)) (by decide) (fun K hK => ?_)
 refine goes_ Try.func52 (by kernel_rfl) rfl #[.int .i64 a0_2, .int .i64 8] (by rfl) rfl rfl (by (try simp only [List.map_toArray, List.map_cons, List.map_nil]); first | done | rfl | (simp only [List.length_drop, List.length_take]; rfl)) ?_
 with_reducible refine (tautochronelaw20_rest.calls a0_2 8 t214 _ A4.out).mono ?_
 rintro e w' ⟨rfl, ⟨nd, rfl⟩⟩
 refine ⟨_, rfl, ?_⟩
 refine hK.out _ _ ⟨(blk_cell BK210.out 0).trans rfl, (blk_cell BK210.out 1).trans rfl, (blk_cell BK210.out 2).trans rfl, (blk_cell BK210.out 3).trans rfl, (blk_cell BK210.out 4).trans rfl, (blk_cell BK210.out 5).trans rfl, (blk_cell BK210.out 6).trans rfl, (blk_cell BK210.out 7).trans rfl⟩ (fun hHeld => ?_)
 clear hK K
 refine norm_ (a' := ?_) ?_ ?_
 rotate_left
 ·
  show Act.put _ (some 13) _ = _
  simp only [Act.put, List.setIfInBounds_toArray, List.set_cons_zero, List.set_cons_succ, i64_w, i32_w]
  rfl
 refine pure_ (i := 12) (N := some 23) (v := ?_) (a' := ?_) #[true, true, true, true, true, false, true, true, false, true, true, false, true, false, false, false, false, false, false, false] rfl rfl (any_of HT_.out (by kernel_rfl)) (fun _ _ _ h => h) (Or.inl ⟨by rfl, ?_⟩) ?_ ?_
 rotate_left
 ·
  intro w'
  go_simp
  with_reducible rfl
 rotate_left
 ·
  simp only [Act.put, List.setIfInBounds_toArray, List.set_cons_zero, List.set_cons_succ, i64_w, i32_w]
  rfl
 refine one_ (i := 5) (N := some 16) #[true, true, true, true, true, true, true, true, false, true, true, false, true, false, false, false, false, false, false, false] rfl rfl (one_of HT_.out (by kernel_rfl)) (by decide) (fun K hK => ?_)
 refine goes_ Try.func52 (by kernel_rfl) rfl #[.int .i64 a0_4, .int .i64 8] (by rfl) rfl rfl (by (try simp only [List.map_toArray, List.map_cons, List.map_nil]); first | done | rfl | (simp only [List.length_drop, List.length_take]; rfl)) ?_
 with_reducible refine (tautochronelaw20_rest.calls a0_4 8 t215 _ A5.out).mono ?_
 rintro e w' ⟨rfl, ⟨nd, rfl⟩⟩
 refine ⟨_, rfl, ?_⟩
 refine hK.out _ _ ⟨(blk_cell BK210.out 0).trans rfl, (blk_cell BK210.out 1).trans rfl, (blk_cell BK210.out 2).trans rfl, (blk_cell BK210.out 3).trans rfl, (blk_cell BK210.out 4).trans rfl, (blk_cell BK210.out 5).trans rfl, (blk_cell BK210.out 6).trans rfl, (blk_cell BK210.out 7).trans rfl⟩ (fun hHeld => ?_)
 clear hK K
 refine norm_ (a' := ?_) ?_ ?_
 rotate_left
 ·
  show Act.put _ (some 16) _ = _
  simp only [Act.put, List.setIfInBounds_toArray, List.set_cons_zero, List.set_cons_succ, i64_w, i32_w]
  rfl
 refine one_ (i := 8) (N := some 19) #[true, true, true, true, true, true, true, true, true, true, true, false, true, false, false, false, false, false, false, false] rfl rfl (one_of HT_.out (by kernel_rfl)) (by decide) (fun K hK => ?_)
 refine goes_ Try.func52 (by kernel_rfl) rfl #[.int .i64 a0_5, .int .i64 8] (by rfl) rfl rfl (by (try simp only [List.map_toArray, List.map_cons, List.map_nil]); first | done | rfl | (simp only [List.length_drop, List.length_take]; rfl)) ?_
 with_reducible refine (tautochronelaw20_rest.calls a0_5 8 t216 _ A6.out).mono ?_
 rintro e w' ⟨rfl, ⟨nd, rfl⟩⟩
 refine ⟨_, rfl, ?_⟩
 refine hK.out _ _ ⟨(blk_cell BK210.out 0).trans rfl, (blk_cell BK210.out 1).trans rfl, (blk_cell BK210.out 2).trans rfl, (blk_cell BK210.out 3).trans rfl, (blk_cell BK210.out 4).trans rfl, (blk_cell BK210.out 5).trans rfl, (blk_cell BK210.out 6).trans rfl, (blk_cell BK210.out 7).trans rfl⟩ (fun hHeld => ?_)
 clear hK K
 refine norm_ (a' := ?_) ?_ ?_
 rotate_left
 ·
  show Act.put _ (some 19) _ = _
  simp only [Act.put, List.setIfInBounds_toArray, List.set_cons_zero, List.set_cons_succ, i64_w, i32_w]
  rfl
 refine one_ (i := 11) (N := some 22) #[true, true, true, true, true, true, true, true, true, true, true, true, true, false, false, false, false, false, false, false] rfl rfl (one_of HT_.out (by kernel_rfl)) (by decide) (fun K hK => ?_)
 refine goes_ Try.func52 (by kernel_rfl) rfl #[.int .i64 a0_7, .int .i64 65536] (by rfl) rfl rfl (by (try simp only [List.map_toArray, List.map_cons, List.map_nil]); first | done | rfl | (simp only [List.length_drop, List.length_take]; rfl)) ?_
 with_reducible refine (tautochronelaw20_rest.calls a0_7 65536 t217 _ A7.out).mono ?_
 rintro e w' ⟨rfl, ⟨nd, rfl⟩⟩
 refine ⟨_, rfl, ?_⟩
 refine hK.out _ _ ⟨(blk_cell BK210.out 0).trans rfl, (blk_cell BK210.out 1).trans rfl, (blk_cell BK210.out 2).trans rfl, (blk_cell BK210.out 3).trans rfl, (blk_cell BK210.out 4).trans rfl, (blk_cell BK210.out 5).trans rfl, (blk_cell BK210.out 6).trans rfl, (blk_cell BK210.out 7).trans rfl⟩ (fun hHeld => ?_)
 clear hK K
 refine norm_ (a' := ?_) ?_ ?_
 rotate_left
 ·
  show Act.put _ (some 22) _ = _
  simp only [Act.put, List.setIfInBounds_toArray, List.set_cons_zero, List.set_cons_succ, i64_w, i32_w]
  rfl
 refine last_ (i := 13) (N := none) #[true, true, true, true, true, true, true, true, true, true, true, true, true, true, false, false, false, false, false, false] rfl rfl (one_of HT_.out (by kernel_rfl)) (by decide) (fun K hK => ?_)
 have hs16 : w15.cell? ⟨gb210, 2, none⟩ = some (.int .i64 a0_2) := (blk_cell BK210.out 2).trans rfl
 have hfs16 := blk_frozen BK210.out 2
 have hns16_1 := NB211_210.out
 have hms16_1 := NB210_211.out
 refine skip_ (w1 := ?_) (by rfl) rfl ?_ ?_
 rotate_left
 ·
  go_simp
  rfl
 refine hK.out _ _ ?_
 clear hK K
 refine pure_ (i := 14) (N := some 24) (v := ?_) (a' := ?_) #[true, true, true, true, true, true, true, true, true, true, true, true, true, true, true, false, false, false, false, false] rfl rfl (any_of HT_.out (by kernel_rfl)) (fun _ _ _ h => h) (Or.inl ⟨by rfl, ?_⟩) ?_ ?_
 rotate_left
 ·
  intro w'
  go_simp
  with_reducible rfl
 rotate_left
 ·
  simp only [Act.put, List.setIfInBounds_toArray, List.set_cons_zero, List.set_cons_succ, i64_w, i32_w]
  rfl
 refine last_ (i := 15) (N := none) #[true, true, true, true, true, true, true, true, true, true, true, true, true, true, true, true, false, false, false, false] rfl rfl (one_of HT_.out (by kernel_rfl)) (by decide) (fun K hK => ?_)
 have hs17 : w15.cell? ⟨gb210, 4, none⟩ = some (.int .i64 a0_4) := (blk_cell BK210.out 4).trans rfl
 have hfs17 := blk_frozen BK210.out 4
 have hns17_1 := NB211_210.out
 have hms17_1 := NB210_211.out
 refine skip_ (w1 := ?_) (by rfl) rfl ?_ ?_
 rotate_left
 ·
  go_simp
  rfl
 refine hK.out _ _ ?_
 clear hK K
 refine pure_ (i := 16) (N := some 25) (v := ?_) (a' := ?_) #[true, true, true, true, true, true, true, true, true, true, true, true, true, true, true, true, true, false, false, false] rfl rfl (any_of HT_.out (by kernel_rfl)) (fun _ _ _ h => h) (Or.inl ⟨by rfl, ?_⟩) ?_ ?_
 rotate_left
 ·
  intro w'
  go_simp
  with_reducible rfl
 rotate_left
 ·
  simp only [Act.put, List.setIfInBounds_toArray, List.set_cons_zero, List.set_cons_succ, i64_w, i32_w]
  rfl
 refine last_ (i := 17) (N := none) #[true, true, true, true, true, true, true, true, true, true, true, true, true, true, true, true, true, true, false, false] rfl rfl (one_of HT_.out (by kernel_rfl)) (by decide) (fun K hK => ?_)
 have hs18 : w15.cell? ⟨gb210, 5, none⟩ = some (.int .i64 a0_5) := (blk_cell BK210.out 5).trans rfl
 have hfs18 := blk_frozen BK210.out 5
 have hns18_1 := NB211_210.out
 have hms18_1 := NB210_211.out
 refine skip_ (w1 := ?_) (by rfl) rfl ?_ ?_
 rotate_left
 ·
  go_simp
  rfl
 refine hK.out _ _ ?_
 clear hK K
 refine pure_ (i := 18) (N := some 26) (v := ?_) (a' := ?_) #[true, true, true, true, true, true, true, true, true, true, true, true, true, true, true, true, true, true, true, false] rfl rfl (any_of HT_.out (by kernel_rfl)) (fun _ _ _ h => h) (Or.inl ⟨by rfl, ?_⟩) ?_ ?_
 rotate_left
 ·
  intro w'
  go_simp
  with_reducible rfl
 rotate_left
 ·
  simp only [Act.put, List.setIfInBounds_toArray, List.set_cons_zero, List.set_cons_succ, i64_w, i32_w]
  rfl
 refine last_ (i := 19) (N := none) #[true, true, true, true, true, true, true, true, true, true, true, true, true, true, true, true, true, true, true, true] rfl rfl (one_of HT_.out (by kernel_rfl)) (by decide) (fun K hK => ?_)
 have hs19 : w15.cell? ⟨gb210, 7, none⟩ = some (.int .i64 a0_7) := (blk_cell BK210.out 7).trans rfl
 have hfs19 := blk_frozen BK210.out 7
 have hns19_1 := NB211_210.out
 have hms19_1 := NB210_211.out
 refine skip_ (w1 := ?_) (by rfl) rfl ?_ ?_
 rotate_left
 ·
  go_simp
  rfl
 refine hK.out _ _ ?_
 clear hK K
 refine done_ (done_of HT_.out (by kernel_rfl)) ?_
 go_upto_region 3 with (fail)
 go_cut [34] (fun v34 wc => ∃ (kq : Nat) (x34_7 : Bool), v34 = .bool x34_7 ∧ Aside0 (tautochronelaw20_Make.j0 kq x34_7 t212 t213 t214 a0_3 t215 t216 a0_6 t217 = some (r1, r2, r3, r4, r5, r6, r7, r8)) ∧ Aside0 (kq ≤ k) ∧ Aside0 (wc.heap[gb210]? = some (.cells #[.int .i64 t212, .int .i64 t213, .int .i64 t214, .int .i64 a0_3, .int .i64 t215, .int .i64 t216, .int .u64 a0_6, .int .i64 t217] 28 (0, 0))) ∧ Aside0 (wc.heap[gb211]? = some (.cells #[.int .i64 0, .int .i64 0, .int .i64 0, .int .i64 0, .int .i64 0, .int .i64 0, .int .u64 0, .int .i64 0] 28 (0, 0))) ∧ Aside0 (Below w.heap.size w wc))
 case first =>
  have H := HC8.out
  clear HC8
  by_cases c20 : t212 = 4
  ·
   rw [if_pos c20] at H
   have c20b0 : (t212 == 4) = true := beq_iff_eq.mpr c20
   have c20b1 : (t212 != 4) = false := bne_eq_false_iff_eq.mpr c20
   clear c20
   (first | rw [c20b0] | (simp only [i64_w, i32_w]; rw [c20b0]) | skip)
   have H' := Aside0.mk H
   clear H
   have hnb21 := NB210_211.out
   have hnc21 := NB211_210.out
   have hcz22_0 : w15.cell? ⟨gb210, 0, none⟩ = some (.int .i64 t212) := (blk_cell BK210.out 0).trans rfl
   have hcz22_1 : w15.cell? ⟨gb210, 1, none⟩ = some (.int .i64 t213) := (blk_cell BK210.out 1).trans rfl
   have hcz22_2 : w15.cell? ⟨gb210, 2, none⟩ = some (.int .i64 a0_2) := (blk_cell BK210.out 2).trans rfl
   have hcz22_3 : w15.cell? ⟨gb210, 3, none⟩ = some (.int .i64 a0_3) := (blk_cell BK210.out 3).trans rfl
   have hcz22_4 : w15.cell? ⟨gb210, 4, none⟩ = some (.int .i64 a0_4) := (blk_cell BK210.out 4).trans rfl
   have hcz22_5 : w15.cell? ⟨gb210, 5, none⟩ = some (.int .i64 a0_5) := (blk_cell BK210.out 5).trans rfl
   have hcz22_6 : w15.cell? ⟨gb210, 6, none⟩ = some (.int .u64 a0_6) := (blk_cell BK210.out 6).trans rfl
   have hcz22_7 : w15.cell? ⟨gb210, 7, none⟩ = some (.int .i64 a0_7) := (blk_cell BK210.out 7).trans rfl
   have hfz22_0 := blk_frozen BK210.out 0
   have hfz22_1 := blk_frozen BK210.out 1
   have hfz22_2 := blk_frozen BK210.out 2
   have hfz22_3 := blk_frozen BK210.out 3
   have hfz22_4 := blk_frozen BK210.out 4
   have hfz22_5 := blk_frozen BK210.out 5
   have hfz22_6 := blk_frozen BK210.out 6
   have hfz22_7 := blk_frozen BK210.out 7
   go_wp2
   go_meet
   case rel => exact ⟨_, (true), (by first | rfl | (simp; done) | (simp [*]; done)), H', ⟨by first | omega | exact Nat.le_refl _⟩, ⟨by (with_reducible repeat (first | refine blk_drewN ?_ _ | refine blk_drew ?_ | refine blk_alloc ?_ _)); refine blk_put (cs := #[.int .i64 t212, .int .i64 t213, .int .i64 t214, .int .i64 a0_3, .int .i64 t215, .int .i64 t216, .int .u64 a0_6, .int .i64 a0_7]) ?_ 7 _ rfl; (with_reducible repeat (first | refine blk_drewN ?_ _ | refine blk_drew ?_ | refine blk_alloc ?_ _)); refine blk_put (cs := #[.int .i64 t212, .int .i64 t213, .int .i64 t214, .int .i64 a0_3, .int .i64 t215, .int .i64 a0_5, .int .u64 a0_6, .int .i64 a0_7]) ?_ 5 _ rfl; (with_reducible repeat (first | refine blk_drewN ?_ _ | refine blk_drew ?_ | refine blk_alloc ?_ _)); refine blk_put (cs := #[.int .i64 t212, .int .i64 t213, .int .i64 t214, .int .i64 a0_3, .int .i64 a0_4, .int .i64 a0_5, .int .u64 a0_6, .int .i64 a0_7]) ?_ 4 _ rfl; (with_reducible repeat (first | refine blk_drewN ?_ _ | refine blk_drew ?_ | refine blk_alloc ?_ _)); refine blk_put (cs := #[.int .i64 t212, .int .i64 t213, .int .i64 a0_2, .int .i64 a0_3, .int .i64 a0_4, .int .i64 a0_5, .int .u64 a0_6, .int .i64 a0_7]) ?_ 2 _ rfl; (with_reducible repeat (first | refine blk_drewN ?_ _ | refine blk_drew ?_ | refine blk_alloc ?_ _)); exact BK210.out⟩, ⟨by (with_reducible repeat (first | refine blk_drewN ?_ _ | refine blk_drew ?_ | refine blk_alloc ?_ _)); refine blk_far ?_ NB211_210.out _; (with_reducible repeat (first | refine blk_drewN ?_ _ | refine blk_drew ?_ | refine blk_alloc ?_ _)); refine blk_far ?_ NB211_210.out _; (with_reducible repeat (first | refine blk_drewN ?_ _ | refine blk_drew ?_ | refine blk_alloc ?_ _)); refine blk_far ?_ NB211_210.out _; (with_reducible repeat (first | refine blk_drewN ?_ _ | refine blk_drew ?_ | refine blk_alloc ?_ _)); refine blk_far ?_ NB211_210.out _; (with_reducible repeat (first | refine blk_drewN ?_ _ | refine blk_drew ?_ | refine blk_alloc ?_ _)); exact BK211.out⟩, ⟨by repeat (first | (with_reducible first | exact HB.out | apply below_alloc | apply pw_below_drewN | apply below_drew1 | refine below_set ?_ GE210.out | refine below_set ?_ GE211.out) | exact HB.out)⟩⟩
  ·
   rw [if_neg c20] at H
   have c20b0 : (t212 == 4) = false := beq_eq_false_iff_ne.mpr c20
   have c20b1 : (t212 != 4) = true := bne_iff_ne.mpr c20
   (first | rw [c20b0] | (simp only [i64_w, i32_w]; rw [c20b0]) | skip)
   have H' := Aside0.mk H
   clear H
   have hnb23 := NB210_211.out
   have hnc23 := NB211_210.out
   have hcz24_0 : w15.cell? ⟨gb210, 0, none⟩ = some (.int .i64 t212) := (blk_cell BK210.out 0).trans rfl
   have hcz24_1 : w15.cell? ⟨gb210, 1, none⟩ = some (.int .i64 t213) := (blk_cell BK210.out 1).trans rfl
   have hcz24_2 : w15.cell? ⟨gb210, 2, none⟩ = some (.int .i64 a0_2) := (blk_cell BK210.out 2).trans rfl
   have hcz24_3 : w15.cell? ⟨gb210, 3, none⟩ = some (.int .i64 a0_3) := (blk_cell BK210.out 3).trans rfl
   have hcz24_4 : w15.cell? ⟨gb210, 4, none⟩ = some (.int .i64 a0_4) := (blk_cell BK210.out 4).trans rfl
   have hcz24_5 : w15.cell? ⟨gb210, 5, none⟩ = some (.int .i64 a0_5) := (blk_cell BK210.out 5).trans rfl
   have hcz24_6 : w15.cell? ⟨gb210, 6, none⟩ = some (.int .u64 a0_6) := (blk_cell BK210.out 6).trans rfl
   have hcz24_7 : w15.cell? ⟨gb210, 7, none⟩ = some (.int .i64 a0_7) := (blk_cell BK210.out 7).trans rfl
   have hfz24_0 := blk_frozen BK210.out 0
   have hfz24_1 := blk_frozen BK210.out 1
   have hfz24_2 := blk_frozen BK210.out 2
   have hfz24_3 := blk_frozen BK210.out 3
   have hfz24_4 := blk_frozen BK210.out 4
   have hfz24_5 := blk_frozen BK210.out 5
   have hfz24_6 := blk_frozen BK210.out 6
   have hfz24_7 := blk_frozen BK210.out 7
   go_wp2
   go_meet
   case rel => exact ⟨_, ((t212 == 5)), (by first | rfl | (simp; done) | (simp [*]; done)), H', ⟨by first | omega | exact Nat.le_refl _⟩, ⟨by (with_reducible repeat (first | refine blk_drewN ?_ _ | refine blk_drew ?_ | refine blk_alloc ?_ _)); refine blk_put (cs := #[.int .i64 t212, .int .i64 t213, .int .i64 t214, .int .i64 a0_3, .int .i64 t215, .int .i64 t216, .int .u64 a0_6, .int .i64 a0_7]) ?_ 7 _ rfl; (with_reducible repeat (first | refine blk_drewN ?_ _ | refine blk_drew ?_ | refine blk_alloc ?_ _)); refine blk_put (cs := #[.int .i64 t212, .int .i64 t213, .int .i64 t214, .int .i64 a0_3, .int .i64 t215, .int .i64 a0_5, .int .u64 a0_6, .int .i64 a0_7]) ?_ 5 _ rfl; (with_reducible repeat (first | refine blk_drewN ?_ _ | refine blk_drew ?_ | refine blk_alloc ?_ _)); refine blk_put (cs := #[.int .i64 t212, .int .i64 t213, .int .i64 t214, .int .i64 a0_3, .int .i64 a0_4, .int .i64 a0_5, .int .u64 a0_6, .int .i64 a0_7]) ?_ 4 _ rfl; (with_reducible repeat (first | refine blk_drewN ?_ _ | refine blk_drew ?_ | refine blk_alloc ?_ _)); refine blk_put (cs := #[.int .i64 t212, .int .i64 t213, .int .i64 a0_2, .int .i64 a0_3, .int .i64 a0_4, .int .i64 a0_5, .int .u64 a0_6, .int .i64 a0_7]) ?_ 2 _ rfl; (with_reducible repeat (first | refine blk_drewN ?_ _ | refine blk_drew ?_ | refine blk_alloc ?_ _)); exact BK210.out⟩, ⟨by (with_reducible repeat (first | refine blk_drewN ?_ _ | refine blk_drew ?_ | refine blk_alloc ?_ _)); refine blk_far ?_ NB211_210.out _; (with_reducible repeat (first | refine blk_drewN ?_ _ | refine blk_drew ?_ | refine blk_alloc ?_ _)); refine blk_far ?_ NB211_210.out _; (with_reducible repeat (first | refine blk_drewN ?_ _ | refine blk_drew ?_ | refine blk_alloc ?_ _)); refine blk_far ?_ NB211_210.out _; (with_reducible repeat (first | refine blk_drewN ?_ _ | refine blk_drew ?_ | refine blk_alloc ?_ _)); refine blk_far ?_ NB211_210.out _; (with_reducible repeat (first | refine blk_drewN ?_ _ | refine blk_drew ?_ | refine blk_alloc ?_ _)); exact BK211.out⟩, ⟨by repeat (first | (with_reducible first | exact HB.out | apply below_alloc | apply pw_below_drewN | apply below_drew1 | refine below_set ?_ GE210.out | refine below_set ?_ GE211.out) | exact HB.out)⟩⟩
 case rest =>
  clear HC8
  try clear c2
  try clear p2
  try clear c3
  try clear c5
  try clear c20
  try clear c20b0
  try clear c20b1
  try clear c21
  try clear c23
  try clear hcz22_0
  try clear hcz22_1
  try clear hcz22_2
  try clear hcz22_3
  try clear hcz22_4
  try clear hcz22_5
  try clear hcz22_6
  try clear hcz22_7
  try clear hcz24_0
  try clear hcz24_1
  try clear hcz24_2
  try clear hcz24_3
  try clear hcz24_4
  try clear hcz24_5
  try clear hcz24_6
  try clear hcz24_7
  try clear hfz22_0
  try clear hfz22_1
  try clear hfz22_2
  try clear hfz22_3
  try clear hfz22_4
  try clear hfz22_5
  try clear hfz22_6
  try clear hfz22_7
  try clear hfz24_0
  try clear hfz24_1
  try clear hfz24_2
  try clear hfz24_3
  try clear hfz24_4
  try clear hfz24_5
  try clear hfz24_6
  try clear hfz24_7
  obtain ⟨kq, x34_7, rfl, HA, HJ7, BK210, BK211, HB⟩ := hcut
  cases kq with
  | zero => exact absurd HA.out (by simp [tautochronelaw20_Make.j0])
  | succ kj7 =>
   have H := HA.out
   clear HA
   simp only [tautochronelaw20_Make.j0] at H
   by_cases c25 : x34_7 = true
   ·
    subst c25
    have H1 : ((tautochronelaw20_rest.f a0_3 9).bind fun t218 => ((tautochronelaw20_bare.f kj7 t212 t213 t214 (wrap64 (t218 - 1)) t215 t216 a0_6 t217).bind fun bt219 => (some (bt219.1, bt219.2.1, bt219.2.2.1, bt219.2.2.2.1, bt219.2.2.2.2.1, bt219.2.2.2.2.2.1, bt219.2.2.2.2.2.2.1, bt219.2.2.2.2.2.2.2)))) = some (r1, r2, r3, r4, r5, r6, r7, r8) := by rw [if_pos rfl] at H; exact H
    clear H
    have H := H1
    clear H1
    replace H := Option.bind_eq_some_iff.mp H
    obtain ⟨t218, A260, H⟩ := H
    replace H : ((tautochronelaw20_bare.f kj7 t212 t213 t214 (wrap64 (t218 - 1)) t215 t216 a0_6 t217).bind fun bt219 => (some (bt219.1, bt219.2.1, bt219.2.2.1, bt219.2.2.2.1, bt219.2.2.2.2.1, bt219.2.2.2.2.2.1, bt219.2.2.2.2.2.2.1, bt219.2.2.2.2.2.2.2))) = some (r1, r2, r3, r4, r5, r6, r7, r8) := H
    have A26 := Aside0.mk A260
    clear A260
    replace H := Option.bind_eq_some_iff.mp H
    obtain ⟨⟨t219, t220, t221, t222, t223, t224, t225, t226⟩, A270, H⟩ := H
    replace H : (some (t219, t220, t221, t222, t223, t224, t225, t226)) = some (r1, r2, r3, r4, r5, r6, r7, r8) := H
    have A27 := Aside0.mk A270
    clear A270
    simp only [Option.some.injEq, Prod.mk.injEq] at H
    obtain ⟨rfl, rfl, rfl, rfl, rfl, rfl, rfl, rfl⟩ := H
    have hnb28 := NB210_211.out
    have hnc28 := NB211_210.out
    have hcz29_0 : wc.cell? ⟨gb210, 0, none⟩ = some (.int .i64 t212) := (blk_cell BK210.out 0).trans rfl
    have hcz29_1 : wc.cell? ⟨gb210, 1, none⟩ = some (.int .i64 t213) := (blk_cell BK210.out 1).trans rfl
    have hcz29_2 : wc.cell? ⟨gb210, 2, none⟩ = some (.int .i64 t214) := (blk_cell BK210.out 2).trans rfl
    have hcz29_3 : wc.cell? ⟨gb210, 3, none⟩ = some (.int .i64 a0_3) := (blk_cell BK210.out 3).trans rfl
    have hcz29_4 : wc.cell? ⟨gb210, 4, none⟩ = some (.int .i64 t215) := (blk_cell BK210.out 4).trans rfl
    have hcz29_5 : wc.cell? ⟨gb210, 5, none⟩ = some (.int .i64 t216) := (blk_cell BK210.out 5).trans rfl
    have hcz29_6 : wc.cell? ⟨gb210, 6, none⟩ = some (.int .u64 a0_6) := (blk_cell BK210.out 6).trans rfl
    have hcz29_7 : wc.cell? ⟨gb210, 7, none⟩ = some (.int .i64 t217) := (blk_cell BK210.out 7).trans rfl
    have hfz29_0 := blk_frozen BK210.out 0
    have hfz29_1 := blk_frozen BK210.out 1
    have hfz29_2 := blk_frozen BK210.out 2
    have hfz29_3 := blk_frozen BK210.out 3
    have hfz29_4 := blk_frozen BK210.out 4
    have hfz29_5 := blk_frozen BK210.out 5
    have hfz29_6 := blk_frozen BK210.out 6
    have hfz29_7 := blk_frozen BK210.out 7
    go_wp2_with (first | ((with_reducible refine gate_callee (f := 52) rfl ?_); refine goesL_ (some 37) rfl rfl Try.func52 (by kernel_rfl) rfl #[.int .i64 a0_3, .int .i64 9] rfl (by (try simp only [List.map_toArray, List.map_cons, List.map_nil]); first | done | rfl | (simp only [List.length_drop, List.length_take]; rfl)) ?_; (with_reducible refine (tautochronelaw20_rest.calls a0_3 9 t218 _ A26.out).mono ?_); rintro e w' ⟨rfl, ⟨nd, rfl⟩⟩; refine ⟨_, rfl, ?_⟩; (try (rw [drewN_self wc]; generalize hq_ : World.drewN wc _ = wc; have n0_ : Aside0 (wc.heap[gb210]? = some (.cells #[.int .i64 t212, .int .i64 t213, .int .i64 t214, .int .i64 a0_3, .int .i64 t215, .int .i64 t216, .int .u64 a0_6, .int .i64 t217] 28 (0, 0))) := ⟨by rw [← hq_]; exact (by (with_reducible repeat (first | refine blk_drewN ?_ _ | refine blk_drew ?_ | refine blk_alloc ?_ _)); exact BK210.out)⟩; have n1_ : Aside0 (wc.heap[gb211]? = some (.cells #[.int .i64 0, .int .i64 0, .int .i64 0, .int .i64 0, .int .i64 0, .int .i64 0, .int .u64 0, .int .i64 0] 28 (0, 0))) := ⟨by rw [← hq_]; exact (by (with_reducible repeat (first | refine blk_drewN ?_ _ | refine blk_drew ?_ | refine blk_alloc ?_ _)); exact BK211.out)⟩; have n2_ : Aside0 (Below w.heap.size w wc) := ⟨by rw [← hq_]; exact (by repeat (first | (with_reducible first | exact HB.out | apply below_alloc | apply pw_below_drewN | apply below_drew1 | refine below_set ?_ GE210.out | refine below_set ?_ GE211.out) | exact HB.out))⟩; clear BK210 BK211 HB hq_; have BK210 := n0_; have BK211 := n1_; have HB := n2_; clear n0_ n1_ n2_; have hcz29_0 : wc.cell? ⟨gb210, 0, none⟩ = some (.int .i64 t212) := (blk_cell BK210.out 0).trans rfl; have hcz29_1 : wc.cell? ⟨gb210, 1, none⟩ = some (.int .i64 t213) := (blk_cell BK210.out 1).trans rfl; have hcz29_2 : wc.cell? ⟨gb210, 2, none⟩ = some (.int .i64 t214) := (blk_cell BK210.out 2).trans rfl; have hcz29_3 : wc.cell? ⟨gb210, 3, none⟩ = some (.int .i64 a0_3) := (blk_cell BK210.out 3).trans rfl; have hcz29_4 : wc.cell? ⟨gb210, 4, none⟩ = some (.int .i64 t215) := (blk_cell BK210.out 4).trans rfl; have hcz29_5 : wc.cell? ⟨gb210, 5, none⟩ = some (.int .i64 t216) := (blk_cell BK210.out 5).trans rfl; have hcz29_6 : wc.cell? ⟨gb210, 6, none⟩ = some (.int .u64 a0_6) := (blk_cell BK210.out 6).trans rfl; have hcz29_7 : wc.cell? ⟨gb210, 7, none⟩ = some (.int .i64 t217) := (blk_cell BK210.out 7).trans rfl; have hfz29_0 := blk_frozen BK210.out 0; have hfz29_1 := blk_frozen BK210.out 1; have hfz29_2 := blk_frozen BK210.out 2; have hfz29_3 := blk_frozen BK210.out 3; have hfz29_4 := blk_frozen BK210.out 4; have hfz29_5 := blk_frozen BK210.out 5; have hfz29_6 := blk_frozen BK210.out 6; have hfz29_7 := blk_frozen BK210.out 7))) | ((with_reducible refine gate_callee (f := 53) rfl ?_); refine goesL_ (some 45) rfl rfl Try.func53 (by kernel_rfl) rfl #[.agg #[.int .i64 t212, .int .i64 t213, .int .i64 t214, .int .i64 (wrap64 (t218 - 1)), .int .i64 t215, .int .i64 t216, .int .u64 a0_6, .int .i64 t217]] rfl (by (try simp only [List.map_toArray, List.map_cons, List.map_nil]); first | done | rfl | (simp only [List.length_drop, List.length_take]; rfl)) ?_; (with_reducible refine (tautochronelaw20_bare.calls kj7 t212 t213 t214 (wrap64 (t218 - 1)) t215 t216 a0_6 t217 t219 t220 t221 t222 t223 t224 t225 t226 _ A27.out).mono ?_); rintro e w30 ⟨rfl, hb⟩; refine ⟨_, rfl, ?_⟩; have n0_ := Aside0.mk (blk_below (g := gb210) (o := .cells #[.int .i64 t212, .int .i64 t213, .int .i64 t214, .int .i64 (wrap64 (t218 - 1)), .int .i64 t215, .int .i64 t216, .int .u64 a0_6, .int .i64 t217] 28 (0, 0)) (by (with_reducible repeat (first | refine blk_drewN ?_ _ | refine blk_drew ?_ | refine blk_alloc ?_ _)); refine blk_put (cs := #[.int .i64 t212, .int .i64 t213, .int .i64 t214, .int .i64 a0_3, .int .i64 t215, .int .i64 t216, .int .u64 a0_6, .int .i64 t217]) ?_ 3 _ rfl; (with_reducible repeat (first | refine blk_drewN ?_ _ | refine blk_drew ?_ | refine blk_alloc ?_ _)); exact BK210.out) hb); have n1_ := Aside0.mk (blk_below (g := gb211) (o := .cells #[.int .i64 0, .int .i64 0, .int .i64 0, .int .i64 0, .int .i64 0, .int .i64 0, .int .u64 0, .int .i64 0] 28 (0, 0)) (by (with_reducible repeat (first | refine blk_drewN ?_ _ | refine blk_drew ?_ | refine blk_alloc ?_ _)); refine blk_far ?_ NB211_210.out _; (with_reducible repeat (first | refine blk_drewN ?_ _ | refine blk_drew ?_ | refine blk_alloc ?_ _)); exact BK211.out) hb); have n2_ := Aside0.mk (below_step (by repeat (first | (with_reducible first | exact HB.out | apply below_alloc | apply pw_below_drewN | apply below_drew1 | refine below_set ?_ GE210.out | refine below_set ?_ GE211.out) | exact HB.out)) hb); clear BK210; clear BK211; clear HB; have BK210 := n0_; have BK211 := n1_; have HB := n2_; clear n0_ n1_ n2_; (try clear hb); (try clear hb2); (try clear hk); (try clear hi); have hcz31_0 : w30.cell? ⟨gb211, 0, none⟩ = some (.int .i64 0) := (blk_cell BK211.out 0).trans rfl; have hcz31_1 : w30.cell? ⟨gb211, 1, none⟩ = some (.int .i64 0) := (blk_cell BK211.out 1).trans rfl; have hcz31_2 : w30.cell? ⟨gb211, 2, none⟩ = some (.int .i64 0) := (blk_cell BK211.out 2).trans rfl; have hcz31_3 : w30.cell? ⟨gb211, 3, none⟩ = some (.int .i64 0) := (blk_cell BK211.out 3).trans rfl; have hcz31_4 : w30.cell? ⟨gb211, 4, none⟩ = some (.int .i64 0) := (blk_cell BK211.out 4).trans rfl; have hcz31_5 : w30.cell? ⟨gb211, 5, none⟩ = some (.int .i64 0) := (blk_cell BK211.out 5).trans rfl; have hcz31_6 : w30.cell? ⟨gb211, 6, none⟩ = some (.int .u64 0) := (blk_cell BK211.out 6).trans rfl; have hcz31_7 : w30.cell? ⟨gb211, 7, none⟩ = some (.int .i64 0) := (blk_cell BK211.out 7).trans rfl; have hfz31_0 := blk_frozen BK211.out 0; have hfz31_1 := blk_frozen BK211.out 1; have hfz31_2 := blk_frozen BK211.out 2; have hfz31_3 := blk_frozen BK211.out 3; have hfz31_4 := blk_frozen BK211.out 4; have hfz31_5 := blk_frozen BK211.out 5; have hfz31_6 := blk_frozen BK211.out 6; have hfz31_7 := blk_frozen BK211.out 7))
    refine bodyPost_ret (results_cell_row rfl _ _ gb211 28 #[.int .i64 t219, .int .i64 t220, .int .i64 t221, .int .i64 t222, .int .i64 t223, .int .i64 t224, .int .u64 t225, .int .i64 t226] (0, 0) _ rfl (by (with_reducible repeat (first | refine blk_drewN ?_ _ | refine blk_drew ?_ | refine blk_alloc ?_ _)); refine blk_put (cs := #[.int .i64 t219, .int .i64 t220, .int .i64 t221, .int .i64 t222, .int .i64 t223, .int .i64 t224, .int .u64 t225, .int .i64 0]) ?_ 7 _ rfl; (with_reducible repeat (first | refine blk_drewN ?_ _ | refine blk_drew ?_ | refine blk_alloc ?_ _)); refine blk_put (cs := #[.int .i64 t219, .int .i64 t220, .int .i64 t221, .int .i64 t222, .int .i64 t223, .int .i64 t224, .int .u64 0, .int .i64 0]) ?_ 6 _ rfl; (with_reducible repeat (first | refine blk_drewN ?_ _ | refine blk_drew ?_ | refine blk_alloc ?_ _)); refine blk_put (cs := #[.int .i64 t219, .int .i64 t220, .int .i64 t221, .int .i64 t222, .int .i64 t223, .int .i64 0, .int .u64 0, .int .i64 0]) ?_ 5 _ rfl; (with_reducible repeat (first | refine blk_drewN ?_ _ | refine blk_drew ?_ | refine blk_alloc ?_ _)); refine blk_put (cs := #[.int .i64 t219, .int .i64 t220, .int .i64 t221, .int .i64 t222, .int .i64 0, .int .i64 0, .int .u64 0, .int .i64 0]) ?_ 4 _ rfl; (with_reducible repeat (first | refine blk_drewN ?_ _ | refine blk_drew ?_ | refine blk_alloc ?_ _)); refine blk_put (cs := #[.int .i64 t219, .int .i64 t220, .int .i64 t221, .int .i64 0, .int .i64 0, .int .i64 0, .int .u64 0, .int .i64 0]) ?_ 3 _ rfl; (with_reducible repeat (first | refine blk_drewN ?_ _ | refine blk_drew ?_ | refine blk_alloc ?_ _)); refine blk_put (cs := #[.int .i64 t219, .int .i64 t220, .int .i64 0, .int .i64 0, .int .i64 0, .int .i64 0, .int .u64 0, .int .i64 0]) ?_ 2 _ rfl; (with_reducible repeat (first | refine blk_drewN ?_ _ | refine blk_drew ?_ | refine blk_alloc ?_ _)); refine blk_put (cs := #[.int .i64 t219, .int .i64 0, .int .i64 0, .int .i64 0, .int .i64 0, .int .i64 0, .int .u64 0, .int .i64 0]) ?_ 1 _ rfl; (with_reducible repeat (first | refine blk_drewN ?_ _ | refine blk_drew ?_ | refine blk_alloc ?_ _)); refine blk_put (cs := #[.int .i64 0, .int .i64 0, .int .i64 0, .int .i64 0, .int .i64 0, .int .i64 0, .int .u64 0, .int .i64 0]) ?_ 0 _ rfl; (with_reducible repeat (first | refine blk_drewN ?_ _ | refine blk_drew ?_ | refine blk_alloc ?_ _)); exact BK211.out) Try.underlying28 rfl (by kernel_rfl)) rfl ?_
    exact ⟨by first | rfl | (simp [errW_none, errW_some] <;> rfl) | (simp [*, errW_none, errW_some] <;> rfl), by repeat (first | (with_reducible first | exact HB.out | apply below_alloc | apply pw_below_drewN | apply below_drew1 | refine below_set ?_ GE210.out | refine below_set ?_ GE211.out) | exact HB.out)⟩
   ·
    replace c25 := Bool.eq_false_iff.mpr c25
    subst c25
    have H1 : ((tautochronelaw20_rest.f a0_3 8).bind fun t227 => ((tautochronelaw20_bare.f kj7 t212 t213 t214 t227 t215 t216 a0_6 t217).bind fun bt228 => (some (bt228.1, bt228.2.1, bt228.2.2.1, bt228.2.2.2.1, bt228.2.2.2.2.1, bt228.2.2.2.2.2.1, bt228.2.2.2.2.2.2.1, bt228.2.2.2.2.2.2.2)))) = some (r1, r2, r3, r4, r5, r6, r7, r8) := by rw [if_neg (show ¬ (false = true) by decide)] at H; exact H
    clear H
    have H := H1
    clear H1
    replace H := Option.bind_eq_some_iff.mp H
    obtain ⟨t227, A320, H⟩ := H
    replace H : ((tautochronelaw20_bare.f kj7 t212 t213 t214 t227 t215 t216 a0_6 t217).bind fun bt228 => (some (bt228.1, bt228.2.1, bt228.2.2.1, bt228.2.2.2.1, bt228.2.2.2.2.1, bt228.2.2.2.2.2.1, bt228.2.2.2.2.2.2.1, bt228.2.2.2.2.2.2.2))) = some (r1, r2, r3, r4, r5, r6, r7, r8) := H
    have A32 := Aside0.mk A320
    clear A320
    replace H := Option.bind_eq_some_iff.mp H
    obtain ⟨⟨t228, t229, t230, t231, t232, t233, t234, t235⟩, A330, H⟩ := H
    replace H : (some (t228, t229, t230, t231, t232, t233, t234, t235)) = some (r1, r2, r3, r4, r5, r6, r7, r8) := H
    have A33 := Aside0.mk A330
    clear A330
    simp only [Option.some.injEq, Prod.mk.injEq] at H
    obtain ⟨rfl, rfl, rfl, rfl, rfl, rfl, rfl, rfl⟩ := H
    have hnb34 := NB210_211.out
    have hnc34 := NB211_210.out
    have hcz35_0 : wc.cell? ⟨gb210, 0, none⟩ = some (.int .i64 t212) := (blk_cell BK210.out 0).trans rfl
    have hcz35_1 : wc.cell? ⟨gb210, 1, none⟩ = some (.int .i64 t213) := (blk_cell BK210.out 1).trans rfl
    have hcz35_2 : wc.cell? ⟨gb210, 2, none⟩ = some (.int .i64 t214) := (blk_cell BK210.out 2).trans rfl
    have hcz35_3 : wc.cell? ⟨gb210, 3, none⟩ = some (.int .i64 a0_3) := (blk_cell BK210.out 3).trans rfl
    have hcz35_4 : wc.cell? ⟨gb210, 4, none⟩ = some (.int .i64 t215) := (blk_cell BK210.out 4).trans rfl
    have hcz35_5 : wc.cell? ⟨gb210, 5, none⟩ = some (.int .i64 t216) := (blk_cell BK210.out 5).trans rfl
    have hcz35_6 : wc.cell? ⟨gb210, 6, none⟩ = some (.int .u64 a0_6) := (blk_cell BK210.out 6).trans rfl
    have hcz35_7 : wc.cell? ⟨gb210, 7, none⟩ = some (.int .i64 t217) := (blk_cell BK210.out 7).trans rfl
    have hfz35_0 := blk_frozen BK210.out 0
    have hfz35_1 := blk_frozen BK210.out 1
    have hfz35_2 := blk_frozen BK210.out 2
    have hfz35_3 := blk_frozen BK210.out 3
    have hfz35_4 := blk_frozen BK210.out 4
    have hfz35_5 := blk_frozen BK210.out 5
    have hfz35_6 := blk_frozen BK210.out 6
    have hfz35_7 := blk_frozen BK210.out 7
    go_wp2_with (first | ((with_reducible refine gate_callee (f := 52) rfl ?_); refine goesL_ (some 42) rfl rfl Try.func52 (by kernel_rfl) rfl #[.int .i64 a0_3, .int .i64 8] rfl (by (try simp only [List.map_toArray, List.map_cons, List.map_nil]); first | done | rfl | (simp only [List.length_drop, List.length_take]; rfl)) ?_; (with_reducible refine (tautochronelaw20_rest.calls a0_3 8 t227 _ A32.out).mono ?_); rintro e w' ⟨rfl, ⟨nd, rfl⟩⟩; refine ⟨_, rfl, ?_⟩; (try (rw [drewN_self wc]; generalize hq_ : World.drewN wc _ = wc; have n0_ : Aside0 (wc.heap[gb210]? = some (.cells #[.int .i64 t212, .int .i64 t213, .int .i64 t214, .int .i64 a0_3, .int .i64 t215, .int .i64 t216, .int .u64 a0_6, .int .i64 t217] 28 (0, 0))) := ⟨by rw [← hq_]; exact (by (with_reducible repeat (first | refine blk_drewN ?_ _ | refine blk_drew ?_ | refine blk_alloc ?_ _)); exact BK210.out)⟩; have n1_ : Aside0 (wc.heap[gb211]? = some (.cells #[.int .i64 0, .int .i64 0, .int .i64 0, .int .i64 0, .int .i64 0, .int .i64 0, .int .u64 0, .int .i64 0] 28 (0, 0))) := ⟨by rw [← hq_]; exact (by (with_reducible repeat (first | refine blk_drewN ?_ _ | refine blk_drew ?_ | refine blk_alloc ?_ _)); exact BK211.out)⟩; have n2_ : Aside0 (Below w.heap.size w wc) := ⟨by rw [← hq_]; exact (by repeat (first | (with_reducible first | exact HB.out | apply below_alloc | apply pw_below_drewN | apply below_drew1 | refine below_set ?_ GE210.out | refine below_set ?_ GE211.out) | exact HB.out))⟩; clear BK210 BK211 HB hq_; have BK210 := n0_; have BK211 := n1_; have HB := n2_; clear n0_ n1_ n2_; have hcz35_0 : wc.cell? ⟨gb210, 0, none⟩ = some (.int .i64 t212) := (blk_cell BK210.out 0).trans rfl; have hcz35_1 : wc.cell? ⟨gb210, 1, none⟩ = some (.int .i64 t213) := (blk_cell BK210.out 1).trans rfl; have hcz35_2 : wc.cell? ⟨gb210, 2, none⟩ = some (.int .i64 t214) := (blk_cell BK210.out 2).trans rfl; have hcz35_3 : wc.cell? ⟨gb210, 3, none⟩ = some (.int .i64 a0_3) := (blk_cell BK210.out 3).trans rfl; have hcz35_4 : wc.cell? ⟨gb210, 4, none⟩ = some (.int .i64 t215) := (blk_cell BK210.out 4).trans rfl; have hcz35_5 : wc.cell? ⟨gb210, 5, none⟩ = some (.int .i64 t216) := (blk_cell BK210.out 5).trans rfl; have hcz35_6 : wc.cell? ⟨gb210, 6, none⟩ = some (.int .u64 a0_6) := (blk_cell BK210.out 6).trans rfl; have hcz35_7 : wc.cell? ⟨gb210, 7, none⟩ = some (.int .i64 t217) := (blk_cell BK210.out 7).trans rfl; have hfz35_0 := blk_frozen BK210.out 0; have hfz35_1 := blk_frozen BK210.out 1; have hfz35_2 := blk_frozen BK210.out 2; have hfz35_3 := blk_frozen BK210.out 3; have hfz35_4 := blk_frozen BK210.out 4; have hfz35_5 := blk_frozen BK210.out 5; have hfz35_6 := blk_frozen BK210.out 6; have hfz35_7 := blk_frozen BK210.out 7))) | ((with_reducible refine gate_callee (f := 53) rfl ?_); refine goesL_ (some 45) rfl rfl Try.func53 (by kernel_rfl) rfl #[.agg #[.int .i64 t212, .int .i64 t213, .int .i64 t214, .int .i64 t227, .int .i64 t215, .int .i64 t216, .int .u64 a0_6, .int .i64 t217]] rfl (by (try simp only [List.map_toArray, List.map_cons, List.map_nil]); first | done | rfl | (simp only [List.length_drop, List.length_take]; rfl)) ?_; (with_reducible refine (tautochronelaw20_bare.calls kj7 t212 t213 t214 t227 t215 t216 a0_6 t217 t228 t229 t230 t231 t232 t233 t234 t235 _ A33.out).mono ?_); rintro e w36 ⟨rfl, hb⟩; refine ⟨_, rfl, ?_⟩; have n0_ := Aside0.mk (blk_below (g := gb210) (o := .cells #[.int .i64 t212, .int .i64 t213, .int .i64 t214, .int .i64 t227, .int .i64 t215, .int .i64 t216, .int .u64 a0_6, .int .i64 t217] 28 (0, 0)) (by (with_reducible repeat (first | refine blk_drewN ?_ _ | refine blk_drew ?_ | refine blk_alloc ?_ _)); refine blk_put (cs := #[.int .i64 t212, .int .i64 t213, .int .i64 t214, .int .i64 a0_3, .int .i64 t215, .int .i64 t216, .int .u64 a0_6, .int .i64 t217]) ?_ 3 _ rfl; (with_reducible repeat (first | refine blk_drewN ?_ _ | refine blk_drew ?_ | refine blk_alloc ?_ _)); exact BK210.out) hb); have n1_ := Aside0.mk (blk_below (g := gb211) (o := .cells #[.int .i64 0, .int .i64 0, .int .i64 0, .int .i64 0, .int .i64 0, .int .i64 0, .int .u64 0, .int .i64 0] 28 (0, 0)) (by (with_reducible repeat (first | refine blk_drewN ?_ _ | refine blk_drew ?_ | refine blk_alloc ?_ _)); refine blk_far ?_ NB211_210.out _; (with_reducible repeat (first | refine blk_drewN ?_ _ | refine blk_drew ?_ | refine blk_alloc ?_ _)); exact BK211.out) hb); have n2_ := Aside0.mk (below_step (by repeat (first | (with_reducible first | exact HB.out | apply below_alloc | apply pw_below_drewN | apply below_drew1 | refine below_set ?_ GE210.out | refine below_set ?_ GE211.out) | exact HB.out)) hb); clear BK210; clear BK211; clear HB; have BK210 := n0_; have BK211 := n1_; have HB := n2_; clear n0_ n1_ n2_; (try clear hb); (try clear hb2); (try clear hk); (try clear hi); have hcz37_0 : w36.cell? ⟨gb211, 0, none⟩ = some (.int .i64 0) := (blk_cell BK211.out 0).trans rfl; have hcz37_1 : w36.cell? ⟨gb211, 1, none⟩ = some (.int .i64 0) := (blk_cell BK211.out 1).trans rfl; have hcz37_2 : w36.cell? ⟨gb211, 2, none⟩ = some (.int .i64 0) := (blk_cell BK211.out 2).trans rfl; have hcz37_3 : w36.cell? ⟨gb211, 3, none⟩ = some (.int .i64 0) := (blk_cell BK211.out 3).trans rfl; have hcz37_4 : w36.cell? ⟨gb211, 4, none⟩ = some (.int .i64 0) := (blk_cell BK211.out 4).trans rfl; have hcz37_5 : w36.cell? ⟨gb211, 5, none⟩ = some (.int .i64 0) := (blk_cell BK211.out 5).trans rfl; have hcz37_6 : w36.cell? ⟨gb211, 6, none⟩ = some (.int .u64 0) := (blk_cell BK211.out 6).trans rfl; have hcz37_7 : w36.cell? ⟨gb211, 7, none⟩ = some (.int .i64 0) := (blk_cell BK211.out 7).trans rfl; have hfz37_0 := blk_frozen BK211.out 0; have hfz37_1 := blk_frozen BK211.out 1; have hfz37_2 := blk_frozen BK211.out 2; have hfz37_3 := blk_frozen BK211.out 3; have hfz37_4 := blk_frozen BK211.out 4; have hfz37_5 := blk_frozen BK211.out 5; have hfz37_6 := blk_frozen BK211.out 6; have hfz37_7 := blk_frozen BK211.out 7))
    refine bodyPost_ret (results_cell_row rfl _ _ gb211 28 #[.int .i64 t228, .int .i64 t229, .int .i64 t230, .int .i64 t231, .int .i64 t232, .int .i64 t233, .int .u64 t234, .int .i64 t235] (0, 0) _ rfl (by (with_reducible repeat (first | refine blk_drewN ?_ _ | refine blk_drew ?_ | refine blk_alloc ?_ _)); refine blk_put (cs := #[.int .i64 t228, .int .i64 t229, .int .i64 t230, .int .i64 t231, .int .i64 t232, .int .i64 t233, .int .u64 t234, .int .i64 0]) ?_ 7 _ rfl; (with_reducible repeat (first | refine blk_drewN ?_ _ | refine blk_drew ?_ | refine blk_alloc ?_ _)); refine blk_put (cs := #[.int .i64 t228, .int .i64 t229, .int .i64 t230, .int .i64 t231, .int .i64 t232, .int .i64 t233, .int .u64 0, .int .i64 0]) ?_ 6 _ rfl; (with_reducible repeat (first | refine blk_drewN ?_ _ | refine blk_drew ?_ | refine blk_alloc ?_ _)); refine blk_put (cs := #[.int .i64 t228, .int .i64 t229, .int .i64 t230, .int .i64 t231, .int .i64 t232, .int .i64 0, .int .u64 0, .int .i64 0]) ?_ 5 _ rfl; (with_reducible repeat (first | refine blk_drewN ?_ _ | refine blk_drew ?_ | refine blk_alloc ?_ _)); refine blk_put (cs := #[.int .i64 t228, .int .i64 t229, .int .i64 t230, .int .i64 t231, .int .i64 0, .int .i64 0, .int .u64 0, .int .i64 0]) ?_ 4 _ rfl; (with_reducible repeat (first | refine blk_drewN ?_ _ | refine blk_drew ?_ | refine blk_alloc ?_ _)); refine blk_put (cs := #[.int .i64 t228, .int .i64 t229, .int .i64 t230, .int .i64 0, .int .i64 0, .int .i64 0, .int .u64 0, .int .i64 0]) ?_ 3 _ rfl; (with_reducible repeat (first | refine blk_drewN ?_ _ | refine blk_drew ?_ | refine blk_alloc ?_ _)); refine blk_put (cs := #[.int .i64 t228, .int .i64 t229, .int .i64 0, .int .i64 0, .int .i64 0, .int .i64 0, .int .u64 0, .int .i64 0]) ?_ 2 _ rfl; (with_reducible repeat (first | refine blk_drewN ?_ _ | refine blk_drew ?_ | refine blk_alloc ?_ _)); refine blk_put (cs := #[.int .i64 t228, .int .i64 0, .int .i64 0, .int .i64 0, .int .i64 0, .int .i64 0, .int .u64 0, .int .i64 0]) ?_ 1 _ rfl; (with_reducible repeat (first | refine blk_drewN ?_ _ | refine blk_drew ?_ | refine blk_alloc ?_ _)); refine blk_put (cs := #[.int .i64 0, .int .i64 0, .int .i64 0, .int .i64 0, .int .i64 0, .int .i64 0, .int .u64 0, .int .i64 0]) ?_ 0 _ rfl; (with_reducible repeat (first | refine blk_drewN ?_ _ | refine blk_drew ?_ | refine blk_alloc ?_ _)); exact BK211.out) Try.underlying28 rfl (by kernel_rfl)) rfl ?_
    exact ⟨by first | rfl | (simp [errW_none, errW_some] <;> rfl) | (simp [*, errW_none, errW_some] <;> rfl), by repeat (first | (with_reducible first | exact HB.out | apply below_alloc | apply pw_below_drewN | apply below_drew1 | refine below_set ?_ GE210.out | refine below_set ?_ GE211.out) | exact HB.out)⟩

end Go.Proofs.Ytaenjbhhpdmhgaa.PTsoScript
