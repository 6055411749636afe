/-
For TsoScript: what the Go functions that it reaches compute, as plain Lean functions, and the walks that show it; conditions as each theorem states them. (Written by a program of this session on the kit's print.)
-/
import Derived.Test.YtaenjbhhpdmhgaaWSized
import Derived.Test.YtaenjbhhpdmhgaaPTsoScriptx3
import Derived.Test.YtaenjbhhpdmhgaaPTsoScriptx5
-- PRINTED by print.py (a twelfth state) out of the translation. Not trusted: Lean checks it.
namespace Go.Proofs.Ytaenjbhhpdmhgaa.PTsoScript
open Go.RowKit Go.Proofs.YtaenjbhhpdmhgaaW.PrintWords Go.Proofs.YtaenjbhhpdmhgaaW.PrintLast Go.Proofs.YtaenjbhhpdmhgaaW.PrintMore
attribute [local go_sem] max2_int min2_int max_two min_two max_three min_three max_four min_four   -- for this text's walks alone
set_option linter.unusedVariables false
set_option linter.unusedSimpArgs false

/-! ### image_within: function 35 -/
def image_within.f (a0_0 : Int) (a0_1 : Int) (a0_2 : Int) (a0_3 : Int) (a0_4 : Int) (a0_5 : Int) (a0_6 : Int) (a0_7 : Int) (a1 : Int) : Option (Bool) := if a0_0 = 4 then (some (decide (a0_6 < (IntKind.u64.wrap (a1))))) else (if a0_0 = 5 then (some (decide (a0_6 < (IntKind.u64.wrap (a1))))) else (if a0_0 = 8 then (some (decide (a0_6 < (IntKind.u64.wrap (a1))))) else (if a0_0 = 9 then (some (decide (a0_6 < (IntKind.u64.wrap (a1))))) else (if a0_0 = 10 then (some (decide (a0_6 < (IntKind.u64.wrap (a1))))) else (some true)))))
set_option maxHeartbeats 8000000 in
set_option maxRecDepth 100000 in
theorem image_within.calls (a0_0 : Int) (a0_1 : Int) (a0_2 : Int) (a0_3 : Int) (a0_4 : Int) (a0_5 : Int) (a0_6 : Int) (a0_7 : Int) (a1 : Int) (r : Bool) (w : World) (h : image_within.f a0_0 a0_1 a0_2 a0_3 a0_4 a0_5 a0_6 a0_7 a1 = some r) :
  Calls Try.prog 35 #[.agg #[.int .i64 a0_0, .int .i64 a0_1, .int .i64 a0_2, .int .i64 a0_3, .int .i64 a0_4, .int .i64 a0_5, .int .u64 a0_6, .int .i64 a0_7], .int .i64 a1] w fun e w' => e = .returned (.bool r) ∧ Below w.heap.size w w' := by
 have hu28 := Try.underlying28
 have HB := Aside0.mk (Below.refl w.heap.size w)
 have H : (if a0_0 = 4 then (some (decide (a0_6 < (IntKind.u64.wrap (a1))))) else (if a0_0 = 5 then (some (decide (a0_6 < (IntKind.u64.wrap (a1))))) else (if a0_0 = 8 then (some (decide (a0_6 < (IntKind.u64.wrap (a1))))) else (if a0_0 = 9 then (some (decide (a0_6 < (IntKind.u64.wrap (a1))))) else (if a0_0 = 10 then (some (decide (a0_6 < (IntKind.u64.wrap (a1))))) else (some true)))))) = some r := h
 clear h
 by_cases hor1_ : a0_0 = 4 ∨ a0_0 = 5 ∨ a0_0 = 8 ∨ a0_0 = 9 ∨ a0_0 = 10
 ·
  rcases hor1_ with hor1_ | hor1_ | hor1_ | hor1_ | hor1_
  rw [if_pos hor1_] at H
  have hor1__0 : (a0_0 == 4) = true := by rw [hor1_]; rfl
  have hor1__0n : (a0_0 != 4) = false := by rw [hor1_]; rfl
  clear hor1_
  rotate_left
  rw [if_neg (show ¬ a0_0 = 4 by rw [hor1_]; decide), if_pos hor1_] at H
  have hor1__0 : (a0_0 == 4) = false := by rw [hor1_]; rfl
  have hor1__0n : (a0_0 != 4) = true := by rw [hor1_]; rfl
  have hor1__1 : (a0_0 == 5) = true := by rw [hor1_]; rfl
  have hor1__1n : (a0_0 != 5) = false := by rw [hor1_]; rfl
  clear hor1_
  rotate_left
  rw [if_neg (show ¬ a0_0 = 4 by rw [hor1_]; decide), if_neg (show ¬ a0_0 = 5 by rw [hor1_]; decide), if_pos hor1_] at H
  have hor1__0 : (a0_0 == 4) = false := by rw [hor1_]; rfl
  have hor1__0n : (a0_0 != 4) = true := by rw [hor1_]; rfl
  have hor1__1 : (a0_0 == 5) = false := by rw [hor1_]; rfl
  have hor1__1n : (a0_0 != 5) = true := by rw [hor1_]; rfl
  have hor1__2 : (a0_0 == 8) = true := by rw [hor1_]; rfl
  have hor1__2n : (a0_0 != 8) = false := by rw [hor1_]; rfl
  clear hor1_
  rotate_left
  rw [if_neg (show ¬ a0_0 = 4 by rw [hor1_]; decide), if_neg (show ¬ a0_0 = 5 by rw [hor1_]; decide), if_neg (show ¬ a0_0 = 8 by rw [hor1_]; decide), if_pos hor1_] at H
  have hor1__0 : (a0_0 == 4) = false := by rw [hor1_]; rfl
  have hor1__0n : (a0_0 != 4) = true := by rw [hor1_]; rfl
  have hor1__1 : (a0_0 == 5) = false := by rw [hor1_]; rfl
  have hor1__1n : (a0_0 != 5) = true := by rw [hor1_]; rfl
  have hor1__2 : (a0_0 == 8) = false := by rw [hor1_]; rfl
  have hor1__2n : (a0_0 != 8) = true := by rw [hor1_]; rfl
  have hor1__3 : (a0_0 == 9) = true := by rw [hor1_]; rfl
  have hor1__3n : (a0_0 != 9) = false := by rw [hor1_]; rfl
  clear hor1_
  rotate_left
  rw [if_neg (show ¬ a0_0 = 4 by rw [hor1_]; decide), if_neg (show ¬ a0_0 = 5 by rw [hor1_]; decide), if_neg (show ¬ a0_0 = 8 by rw [hor1_]; decide), if_neg (show ¬ a0_0 = 9 by rw [hor1_]; decide), if_pos hor1_] at H
  have hor1__0 : (a0_0 == 4) = false := by rw [hor1_]; rfl
  have hor1__0n : (a0_0 != 4) = true := by rw [hor1_]; rfl
  have hor1__1 : (a0_0 == 5) = false := by rw [hor1_]; rfl
  have hor1__1n : (a0_0 != 5) = true := by rw [hor1_]; rfl
  have hor1__2 : (a0_0 == 8) = false := by rw [hor1_]; rfl
  have hor1__2n : (a0_0 != 8) = true := by rw [hor1_]; rfl
  have hor1__3 : (a0_0 == 9) = false := by rw [hor1_]; rfl
  have hor1__3n : (a0_0 != 9) = true := by rw [hor1_]; rfl
  have hor1__4 : (a0_0 == 10) = true := by rw [hor1_]; rfl
  have hor1__4n : (a0_0 != 10) = false := by rw [hor1_]; rfl
  clear hor1_
  rotate_left
  all_goals
   obtain rfl := Option.some.inj H
   go_enter Try.func35, Try.ntmps35
   go_wp2_with (first | ((with_reducible refine gate_dst (N := 2) rfl ?_); refine box_event ?hg (N := 2) ?hd (cs := #[.int .i64 a0_0, .int .i64 a0_1, .int .i64 a0_2, .int .i64 a0_3, .int .i64 a0_4, .int .i64 a0_5, .int .u64 a0_6, .int .i64 a0_7]) (t := 28) ?hr ?_; (case hd => rfl); (case hg => rfl); (case hr => first | (go_simp; done) | (go_simp; rfl)); intro gb159 hg w4 hbox hb; have n0_ := Aside0.mk (below_step (by repeat (first | (with_reducible first | exact HB.out | apply below_alloc | apply pw_below_drewN | apply below_drew1) | exact HB.out)) hb); have n1_ := Aside0.mk (hbox); have n2_ := Aside0.mk ((by rw [hg]; exact (below_size (by repeat (first | (with_reducible first | exact HB.out | apply below_alloc | apply pw_below_drewN | apply below_drew1) | exact HB.out))) : w.heap.size ≤ gb159)); have n3_ := Aside0.mk ((by rw [hg]; exact (below_size (by repeat (first | (with_reducible first | exact HB.out | apply below_alloc | apply pw_below_drewN | apply below_drew1) | exact HB.out))) : w.heap.size ≤ gb159)); clear HB; have HB := n0_; have BK159 := n1_; have GW159 := n2_; have GE159 := n3_; clear n0_ n1_ n2_ n3_; clear hb hbox hg; have hcz5_0 : w4.cell? ⟨gb159, 0, none⟩ = some (.int .i64 a0_0) := (blk_cell BK159.out 0).trans rfl; have hcz5_1 : w4.cell? ⟨gb159, 1, none⟩ = some (.int .i64 a0_1) := (blk_cell BK159.out 1).trans rfl; have hcz5_2 : w4.cell? ⟨gb159, 2, none⟩ = some (.int .i64 a0_2) := (blk_cell BK159.out 2).trans rfl; have hcz5_3 : w4.cell? ⟨gb159, 3, none⟩ = some (.int .i64 a0_3) := (blk_cell BK159.out 3).trans rfl; have hcz5_4 : w4.cell? ⟨gb159, 4, none⟩ = some (.int .i64 a0_4) := (blk_cell BK159.out 4).trans rfl; have hcz5_5 : w4.cell? ⟨gb159, 5, none⟩ = some (.int .i64 a0_5) := (blk_cell BK159.out 5).trans rfl; have hcz5_6 : w4.cell? ⟨gb159, 6, none⟩ = some (.int .u64 a0_6) := (blk_cell BK159.out 6).trans rfl; have hcz5_7 : w4.cell? ⟨gb159, 7, none⟩ = some (.int .i64 a0_7) := (blk_cell BK159.out 7).trans rfl; have hfz5_0 := blk_frozen BK159.out 0; have hfz5_1 := blk_frozen BK159.out 1; have hfz5_2 := blk_frozen BK159.out 2; have hfz5_3 := blk_frozen BK159.out 3; have hfz5_4 := blk_frozen BK159.out 4; have hfz5_5 := blk_frozen BK159.out 5; have hfz5_6 := blk_frozen BK159.out 6; have hfz5_7 := blk_frozen BK159.out 7))
   go_ret
   exact ⟨by first | rfl | (simp [errW_none, errW_some] <;> rfl) | (simp [*, errW_none, errW_some] <;> rfl), by repeat (first | (with_reducible first | exact HB.out | apply below_alloc | apply pw_below_drewN | apply below_drew1 | refine below_set ?_ GE159.out) | exact HB.out)⟩
 ·
  have c3 : ¬ a0_0 = 4 := fun h_ => hor1_ (Or.inl h_)
  have c6 : ¬ a0_0 = 5 := fun h_ => hor1_ (Or.inr (Or.inl h_))
  have c9 : ¬ a0_0 = 8 := fun h_ => hor1_ (Or.inr (Or.inr (Or.inl h_)))
  have c12 : ¬ a0_0 = 9 := fun h_ => hor1_ (Or.inr (Or.inr (Or.inr (Or.inl h_))))
  have c15 : ¬ a0_0 = 10 := fun h_ => hor1_ (Or.inr (Or.inr (Or.inr (Or.inr (h_)))))
  rw [if_neg c3] at H
  have c3b0 : (a0_0 == 4) = false := beq_eq_false_iff_ne.mpr c3
  have c3b1 : (a0_0 != 4) = true := bne_iff_ne.mpr c3
  rw [if_neg c6] at H
  have c6b0 : (a0_0 == 5) = false := beq_eq_false_iff_ne.mpr c6
  have c6b1 : (a0_0 != 5) = true := bne_iff_ne.mpr c6
  rw [if_neg c9] at H
  have c9b0 : (a0_0 == 8) = false := beq_eq_false_iff_ne.mpr c9
  have c9b1 : (a0_0 != 8) = true := bne_iff_ne.mpr c9
  rw [if_neg c12] at H
  have c12b0 : (a0_0 == 9) = false := beq_eq_false_iff_ne.mpr c12
  have c12b1 : (a0_0 != 9) = true := bne_iff_ne.mpr c12
  rw [if_neg c15] at H
  have c15b0 : (a0_0 == 10) = false := beq_eq_false_iff_ne.mpr c15
  have c15b1 : (a0_0 != 10) = true := bne_iff_ne.mpr c15
  obtain rfl := Option.some.inj H
  go_enter Try.func35, Try.ntmps35
  go_wp2_with (first | ((with_reducible refine gate_dst (N := 2) rfl ?_); refine box_event ?hg (N := 2) ?hd (cs := #[.int .i64 a0_0, .int .i64 a0_1, .int .i64 a0_2, .int .i64 a0_3, .int .i64 a0_4, .int .i64 a0_5, .int .u64 a0_6, .int .i64 a0_7]) (t := 28) ?hr ?_; (case hd => rfl); (case hg => rfl); (case hr => first | (go_simp; done) | (go_simp; rfl)); intro gb159 hg w18 hbox hb; have n0_ := Aside0.mk (below_step (by repeat (first | (with_reducible first | exact HB.out | apply below_alloc | apply pw_below_drewN | apply below_drew1) | exact HB.out)) hb); have n1_ := Aside0.mk (hbox); have n2_ := Aside0.mk ((by rw [hg]; exact (below_size (by repeat (first | (with_reducible first | exact HB.out | apply below_alloc | apply pw_below_drewN | apply below_drew1) | exact HB.out))) : w.heap.size ≤ gb159)); have n3_ := Aside0.mk ((by rw [hg]; exact (below_size (by repeat (first | (with_reducible first | exact HB.out | apply below_alloc | apply pw_below_drewN | apply below_drew1) | exact HB.out))) : w.heap.size ≤ gb159)); clear HB; have HB := n0_; have BK159 := n1_; have GW159 := n2_; have GE159 := n3_; clear n0_ n1_ n2_ n3_; clear hb hbox hg; have hcz19_0 : w18.cell? ⟨gb159, 0, none⟩ = some (.int .i64 a0_0) := (blk_cell BK159.out 0).trans rfl; have hcz19_1 : w18.cell? ⟨gb159, 1, none⟩ = some (.int .i64 a0_1) := (blk_cell BK159.out 1).trans rfl; have hcz19_2 : w18.cell? ⟨gb159, 2, none⟩ = some (.int .i64 a0_2) := (blk_cell BK159.out 2).trans rfl; have hcz19_3 : w18.cell? ⟨gb159, 3, none⟩ = some (.int .i64 a0_3) := (blk_cell BK159.out 3).trans rfl; have hcz19_4 : w18.cell? ⟨gb159, 4, none⟩ = some (.int .i64 a0_4) := (blk_cell BK159.out 4).trans rfl; have hcz19_5 : w18.cell? ⟨gb159, 5, none⟩ = some (.int .i64 a0_5) := (blk_cell BK159.out 5).trans rfl; have hcz19_6 : w18.cell? ⟨gb159, 6, none⟩ = some (.int .u64 a0_6) := (blk_cell BK159.out 6).trans rfl; have hcz19_7 : w18.cell? ⟨gb159, 7, none⟩ = some (.int .i64 a0_7) := (blk_cell BK159.out 7).trans rfl; have hfz19_0 := blk_frozen BK159.out 0; have hfz19_1 := blk_frozen BK159.out 1; have hfz19_2 := blk_frozen BK159.out 2; have hfz19_3 := blk_frozen BK159.out 3; have hfz19_4 := blk_frozen BK159.out 4; have hfz19_5 := blk_frozen BK159.out 5; have hfz19_6 := blk_frozen BK159.out 6; have hfz19_7 := blk_frozen BK159.out 7))
  go_ret
  exact ⟨by first | rfl | (simp [errW_none, errW_some] <;> rfl) | (simp [*, errW_none, errW_some] <;> rfl), by repeat (first | (with_reducible first | exact HB.out | apply below_alloc | apply pw_below_drewN | apply below_drew1 | refine below_set ?_ GE159.out) | exact HB.out)⟩

/-! ### image_May: function 21 -/
mutual
def image_May.j0 : Nat → Bool → Int → Int → List (List (S28)) → Option (Bool)
 | 0, _, _, _, _ => none
 | k + 1, x27, x161000, x161001, x161002 => if x27 = true then (some false) else (image_May.l0 k x161002 (x161002.length : Int) 0 x161000 x161001 x161002)
def image_May.l0 : Nat → List (List (S28)) → Int → Int → Int → Int → List (List (S28)) → Option (Bool)
 | 0, _, _, _, _, _, _ => none
 | k + 1, x29, x30, x31, x161000, x161001, x161002 => if x31 < x30 then (if 0 ≤ x31 then (if x31 < (x29.length : Int) then ((code_Good.f k (rd_L3 x29 x31)).bind fun t162 => (if t162 = true then (image_May.l1 k x29 x30 x31 (rd_L3 x29 x31) ((rd_L3 x29 x31).length : Int) 0 x161000 x161001 x161002) else (some false))) else (none)) else (none)) else (some true)
def image_May.l1 : Nat → List (List (S28)) → Int → Int → List (S28) → Int → Int → Int → Int → List (List (S28)) → Option (Bool)
 | 0, _, _, _, _, _, _, _, _, _ => none
 | k + 1, x29, x30, x31, x38, x39, x40, x161000, x161001, x161002 => if x40 < x39 then (if 0 ≤ x40 then (if x40 < (x38.length : Int) then ((encode_May.f k ((rd_T28 x38 x40).f0) ((rd_T28 x38 x40).f1) ((rd_T28 x38 x40).f2) ((rd_T28 x38 x40).f3) ((rd_T28 x38 x40).f4) ((rd_T28 x38 x40).f5) ((rd_T28 x38 x40).f6) ((rd_T28 x38 x40).f7)).bind fun t165 => (if t165 = true then ((image_within.f ((rd_T28 x38 x40).f0) ((rd_T28 x38 x40).f1) ((rd_T28 x38 x40).f2) ((rd_T28 x38 x40).f3) ((rd_T28 x38 x40).f4) ((rd_T28 x38 x40).f5) ((rd_T28 x38 x40).f6) ((rd_T28 x38 x40).f7) x161001).bind fun t166 => (if t166 = true then (image_May.l1 k x29 x30 x31 x38 x39 (wrap64 (x40 + 1)) x161000 x161001 x161002) else (some false))) else (some false))) else (none)) else (none)) else (image_May.l0 k x29 x30 (wrap64 (x31 + 1)) x161000 x161001 x161002)
end
def image_May.f (k : Nat) (a0_0 : Int) (a0_1 : Int) (l0_2 : List (List (S28))) : Option (Bool) := if a0_0 < 0 then (image_May.j0 k true a0_0 a0_1 l0_2) else (if a0_1 < a0_0 then (image_May.j0 k true a0_0 a0_1 l0_2) else (if a0_1 > 1048576 then (image_May.j0 k true a0_0 a0_1 l0_2) else (image_May.j0 k (decide ((l0_2.length : Int) > 16)) a0_0 a0_1 l0_2)))
theorem image_May.mono_l : ∀ k, (∀ y0 y1 y2 y3, LeO (image_May.j0 k y0 y1 y2 y3) (image_May.j0 (k + 1) y0 y1 y2 y3)) ∧ (∀ y0 y1 y2 y3 y4 y5, LeO (image_May.l0 k y0 y1 y2 y3 y4 y5) (image_May.l0 (k + 1) y0 y1 y2 y3 y4 y5)) ∧ (∀ y0 y1 y2 y3 y4 y5 y6 y7 y8, LeO (image_May.l1 k y0 y1 y2 y3 y4 y5 y6 y7 y8) (image_May.l1 (k + 1) y0 y1 y2 y3 y4 y5 y6 y7 y8))
 | 0 => ⟨fun _ _ _ _ r h => by simp [image_May.j0] at h, fun _ _ _ _ _ _ r h => by simp [image_May.l0] at h, fun _ _ _ _ _ _ _ _ _ r h => by simp [image_May.l1] at h⟩
 | k + 1 => by
  obtain ⟨ih0, ih1, ih2⟩ := image_May.mono_l k
  refine ⟨?_, ?_, ?_⟩
  ·
   intro y0 y1 y2 y3
   unfold image_May.j0
   repeat' first
   | (with_reducible exact ih0 _ _ _ _)
   | (with_reducible exact ih1 _ _ _ _ _ _)
   | (with_reducible exact ih2 _ _ _ _ _ _ _ _ _)
   | (with_reducible exact code_Good.mono _ _)
   | (with_reducible exact encode_May.mono _ _ _ _ _ _ _ _ _)
   | (with_reducible exact LeO.refl _)
   | (with_reducible exact LeO.none _)
   | (with_reducible refine LeO.ite ?_ ?_)
   | (with_reducible refine LeO.bind ?_ (fun _ => ?_))
   | exact ih0 _ _ _ _
   | exact ih1 _ _ _ _ _ _
   | exact ih2 _ _ _ _ _ _ _ _ _
   | exact code_Good.mono _ _
   | exact encode_May.mono _ _ _ _ _ _ _ _ _
   | exact LeO.none _
   | refine LeO.ite ?_ ?_
   | refine LeO.bind ?_ (fun _ => ?_)
  ·
   intro y0 y1 y2 y3 y4 y5
   unfold image_May.l0
   repeat' first
   | (with_reducible exact ih0 _ _ _ _)
   | (with_reducible exact ih1 _ _ _ _ _ _)
   | (with_reducible exact ih2 _ _ _ _ _ _ _ _ _)
   | (with_reducible exact code_Good.mono _ _)
   | (with_reducible exact encode_May.mono _ _ _ _ _ _ _ _ _)
   | (with_reducible exact LeO.refl _)
   | (with_reducible exact LeO.none _)
   | (with_reducible refine LeO.ite ?_ ?_)
   | (with_reducible refine LeO.bind ?_ (fun _ => ?_))
   | exact ih0 _ _ _ _
   | exact ih1 _ _ _ _ _ _
   | exact ih2 _ _ _ _ _ _ _ _ _
   | exact code_Good.mono _ _
   | exact encode_May.mono _ _ _ _ _ _ _ _ _
   | exact LeO.none _
   | refine LeO.ite ?_ ?_
   | refine LeO.bind ?_ (fun _ => ?_)
  ·
   intro y0 y1 y2 y3 y4 y5 y6 y7 y8
   unfold image_May.l1
   repeat' first
   | (with_reducible exact ih0 _ _ _ _)
   | (with_reducible exact ih1 _ _ _ _ _ _)
   | (with_reducible exact ih2 _ _ _ _ _ _ _ _ _)
   | (with_reducible exact code_Good.mono _ _)
   | (with_reducible exact encode_May.mono _ _ _ _ _ _ _ _ _)
   | (with_reducible exact LeO.refl _)
   | (with_reducible exact LeO.none _)
   | (with_reducible refine LeO.ite ?_ ?_)
   | (with_reducible refine LeO.bind ?_ (fun _ => ?_))
   | exact ih0 _ _ _ _
   | exact ih1 _ _ _ _ _ _
   | exact ih2 _ _ _ _ _ _ _ _ _
   | exact code_Good.mono _ _
   | exact encode_May.mono _ _ _ _ _ _ _ _ _
   | exact LeO.none _
   | refine LeO.ite ?_ ?_
   | refine LeO.bind ?_ (fun _ => ?_)
theorem image_May.mono : ∀ a0 a1 a2 k, LeO (image_May.f k a0 a1 a2) (image_May.f (k + 1) a0 a1 a2) := by
 intro a0 a1 a2 k
 obtain ⟨ih0, ih1, ih2⟩ := image_May.mono_l k
 unfold image_May.f
 repeat' first
   | (with_reducible exact ih0 _ _ _ _)
   | (with_reducible exact ih1 _ _ _ _ _ _)
   | (with_reducible exact ih2 _ _ _ _ _ _ _ _ _)
   | (with_reducible exact code_Good.mono _ _)
   | (with_reducible exact encode_May.mono _ _ _ _ _ _ _ _ _)
   | (with_reducible exact LeO.refl _)
   | (with_reducible exact LeO.none _)
   | (with_reducible refine LeO.ite ?_ ?_)
   | (with_reducible refine LeO.bind ?_ (fun _ => ?_))
   | exact ih0 _ _ _ _
   | exact ih1 _ _ _ _ _ _
   | exact ih2 _ _ _ _ _ _ _ _ _
   | exact code_Good.mono _ _
   | exact encode_May.mono _ _ _ _ _ _ _ _ _
   | exact LeO.none _
   | refine LeO.ite ?_ ?_
   | refine LeO.bind ?_ (fun _ => ?_)
set_option maxHeartbeats 8000000 in
set_option maxRecDepth 100000 in
theorem image_May.calls (k : Nat) (a0_0 : Int) (a0_1 : Int) (A0_2 : Option Addr) (c0_2 : Nat) (l0_2 : List (List (S28))) (r : Bool) (w : World) (hr0_2 : Kd.C (Kd.slice 28 k28) w A0_2 l0_2.length l0_2) (hc0_2 : l0_2.length ≤ c0_2) (h : image_May.f k a0_0 a0_1 l0_2 = some r) :
  Calls Try.prog 21 #[.agg #[.int .i64 a0_0, .int .i64 a0_1, .slice A0_2 l0_2.length c0_2]] w fun e w' => e = .returned (.bool r) ∧ Below w.heap.size w w' := by
 have hu36 := Try.underlying36
 have hu28 := Try.underlying28
 have HR0_2 := Aside0.mk hr0_2
 have HC0_2 := Aside0.mk hc0_2
 clear hr0_2 hc0_2
 have HB := Aside0.mk (Below.refl w.heap.size w)
 have H : (if a0_0 < 0 then (image_May.j0 k true a0_0 a0_1 l0_2) else (if a0_1 < a0_0 then (image_May.j0 k true a0_0 a0_1 l0_2) else (if a0_1 > 1048576 then (image_May.j0 k true a0_0 a0_1 l0_2) else (image_May.j0 k (decide ((l0_2.length : Int) > 16)) a0_0 a0_1 l0_2)))) = some r := h
 clear h
 have HC2 := Aside0.mk H
 clear H
 go_enter Try.func21, Try.ntmps21
 go_upto_region 1 with (first | ((with_reducible refine gate_dst (N := 1) rfl ?_); (try (refine gate_guard (by rfl) ?_; dsimp only)); refine box_event ?hg (N := 1) ?hd (cs := #[.int .i64 a0_0, .int .i64 a0_1, .slice A0_2 l0_2.length c0_2]) (t := 36) ?hr ?_; (case hd => rfl); (case hg => rfl); (case hr => first | (go_simp; done) | (go_simp; rfl)); intro gb160 hg w3 hbox hb; have n0_ := Aside0.mk (below_step (by repeat (first | (with_reducible first | exact HB.out | apply below_alloc | apply pw_below_drewN | apply below_drew1) | exact HB.out)) hb); have n1_ := Aside0.mk (hbox); have n2_ := Aside0.mk ((by rw [hg]; exact (below_size (by repeat (first | (with_reducible first | exact HB.out | apply below_alloc | apply pw_below_drewN | apply below_drew1) | exact HB.out))) : w.heap.size ≤ gb160)); have n3_ := Aside0.mk ((by rw [hg]; exact (below_size (by repeat (first | (with_reducible first | exact HB.out | apply below_alloc | apply pw_below_drewN | apply below_drew1) | exact HB.out))) : w.heap.size ≤ gb160)); clear HB; have HB := n0_; have BK160 := n1_; have GW160 := n2_; have GE160 := n3_; clear n0_ n1_ n2_ n3_; clear hb hbox hg))
 (try simp only [Act.put, List.setIfInBounds_toArray, List.set_cons_zero, List.set_cons_succ])
 go_cut [27] (fun v27 wc => ∃ (kq : Nat) (x27_1 : Bool), v27 = .bool x27_1 ∧ Aside0 (image_May.j0 kq x27_1 a0_0 a0_1 l0_2 = some r) ∧ Aside0 (kq ≤ k) ∧ Aside0 (wc.heap[gb160]? = some (.cells #[.int .i64 a0_0, .int .i64 a0_1, (.slice A0_2 l0_2.length c0_2)] 36 (0, 0))) ∧ Aside0 (Below w.heap.size w wc))
 case first =>
  have H := HC2.out
  clear HC2
  by_cases c4 : a0_0 < 0
  ·
   rw [if_pos c4] at H
   have c4b0 : decide (a0_0 < 0) = true := decide_eq_true c4
   clear c4
   (first | rw [c4b0] | (simp only [i64_w, i32_w]; rw [c4b0]) | skip)
   have H' := Aside0.mk H
   clear H
   have hcz5_0 : w3.cell? ⟨gb160, 0, none⟩ = some (.int .i64 a0_0) := (blk_cell BK160.out 0).trans rfl
   have hcz5_1 : w3.cell? ⟨gb160, 1, none⟩ = some (.int .i64 a0_1) := (blk_cell BK160.out 1).trans rfl
   have hcz5_2 : w3.cell? ⟨gb160, 2, none⟩ = some (.slice A0_2 l0_2.length c0_2) := (blk_cell BK160.out 2).trans rfl
   have hfz5_0 := blk_frozen BK160.out 0
   have hfz5_1 := blk_frozen BK160.out 1
   have hfz5_2 := blk_frozen BK160.out 2
   go_wp2
   go_meet
   case rel => exact ⟨_, (true), (by first | rfl | (simp; done) | (simp [*]; done)), H', ⟨by first | omega | exact Nat.le_refl _⟩, ⟨by (with_reducible repeat (first | refine blk_drewN ?_ _ | refine blk_drew ?_ | refine blk_alloc ?_ _)); exact BK160.out⟩, ⟨by repeat (first | (with_reducible first | exact HB.out | apply below_alloc | apply pw_below_drewN | apply below_drew1 | refine below_set ?_ GE160.out) | exact HB.out)⟩⟩
  ·
   rw [if_neg c4] at H
   have c4b0 : decide (a0_0 < 0) = false := decide_eq_false c4
   clear c4
   (first | rw [c4b0] | (simp only [i64_w, i32_w]; rw [c4b0]) | skip)
   by_cases c6 : a0_1 < a0_0
   ·
    rw [if_pos c6] at H
    have c6b0 : decide (a0_1 < a0_0) = true := decide_eq_true c6
    clear c6
    have H' := Aside0.mk H
    clear H
    have hcz7_0 : w3.cell? ⟨gb160, 0, none⟩ = some (.int .i64 a0_0) := (blk_cell BK160.out 0).trans rfl
    have hcz7_1 : w3.cell? ⟨gb160, 1, none⟩ = some (.int .i64 a0_1) := (blk_cell BK160.out 1).trans rfl
    have hcz7_2 : w3.cell? ⟨gb160, 2, none⟩ = some (.slice A0_2 l0_2.length c0_2) := (blk_cell BK160.out 2).trans rfl
    have hfz7_0 := blk_frozen BK160.out 0
    have hfz7_1 := blk_frozen BK160.out 1
    have hfz7_2 := blk_frozen BK160.out 2
    go_wp2
    go_meet
    case rel => exact ⟨_, (true), (by first | rfl | (simp; done) | (simp [*]; done)), H', ⟨by first | omega | exact Nat.le_refl _⟩, ⟨by (with_reducible repeat (first | refine blk_drewN ?_ _ | refine blk_drew ?_ | refine blk_alloc ?_ _)); exact BK160.out⟩, ⟨by repeat (first | (with_reducible first | exact HB.out | apply below_alloc | apply pw_below_drewN | apply below_drew1 | refine below_set ?_ GE160.out) | exact HB.out)⟩⟩
   ·
    rw [if_neg c6] at H
    have c6b0 : decide (a0_1 < a0_0) = false := decide_eq_false c6
    clear c6
    by_cases c8 : a0_1 > 1048576
    ·
     rw [if_pos c8] at H
     have c8b0 : decide (1048576 < a0_1) = true := decide_eq_true c8
     clear c8
     have H' := Aside0.mk H
     clear H
     have hcz9_0 : w3.cell? ⟨gb160, 0, none⟩ = some (.int .i64 a0_0) := (blk_cell BK160.out 0).trans rfl
     have hcz9_1 : w3.cell? ⟨gb160, 1, none⟩ = some (.int .i64 a0_1) := (blk_cell BK160.out 1).trans rfl
     have hcz9_2 : w3.cell? ⟨gb160, 2, none⟩ = some (.slice A0_2 l0_2.length c0_2) := (blk_cell BK160.out 2).trans rfl
     have hfz9_0 := blk_frozen BK160.out 0
     have hfz9_1 := blk_frozen BK160.out 1
     have hfz9_2 := blk_frozen BK160.out 2
     go_wp2
     go_meet
     case rel => exact ⟨_, (true), (by first | rfl | (simp; done) | (simp [*]; done)), H', ⟨by first | omega | exact Nat.le_refl _⟩, ⟨by (with_reducible repeat (first | refine blk_drewN ?_ _ | refine blk_drew ?_ | refine blk_alloc ?_ _)); exact BK160.out⟩, ⟨by repeat (first | (with_reducible first | exact HB.out | apply below_alloc | apply pw_below_drewN | apply below_drew1 | refine below_set ?_ GE160.out) | exact HB.out)⟩⟩
    ·
     rw [if_neg c8] at H
     have c8b0 : decide (1048576 < a0_1) = false := decide_eq_false c8
     clear c8
     have H' := Aside0.mk H
     clear H
     have hcz10_0 : w3.cell? ⟨gb160, 0, none⟩ = some (.int .i64 a0_0) := (blk_cell BK160.out 0).trans rfl
     have hcz10_1 : w3.cell? ⟨gb160, 1, none⟩ = some (.int .i64 a0_1) := (blk_cell BK160.out 1).trans rfl
     have hcz10_2 : w3.cell? ⟨gb160, 2, none⟩ = some (.slice A0_2 l0_2.length c0_2) := (blk_cell BK160.out 2).trans rfl
     have hfz10_0 := blk_frozen BK160.out 0
     have hfz10_1 := blk_frozen BK160.out 1
     have hfz10_2 := blk_frozen BK160.out 2
     go_wp2
     go_meet
     case rel => exact ⟨_, (decide ((l0_2.length : Int) > 16)), (by first | rfl | (simp; done) | (simp [*]; done)), H', ⟨by first | omega | exact Nat.le_refl _⟩, ⟨by (with_reducible repeat (first | refine blk_drewN ?_ _ | refine blk_drew ?_ | refine blk_alloc ?_ _)); exact BK160.out⟩, ⟨by repeat (first | (with_reducible first | exact HB.out | apply below_alloc | apply pw_below_drewN | apply below_drew1 | refine below_set ?_ GE160.out) | exact HB.out)⟩⟩
 case rest =>
  clear HC2
  try clear c2
  try clear p2
  try clear c4
  try clear c4b0
  try clear c6
  try clear c6b0
  try clear c8
  try clear c8b0
  try clear hcz10_0
  try clear hcz10_1
  try clear hcz10_2
  try clear hcz5_0
  try clear hcz5_1
  try clear hcz5_2
  try clear hcz7_0
  try clear hcz7_1
  try clear hcz7_2
  try clear hcz9_0
  try clear hcz9_1
  try clear hcz9_2
  try clear hfz10_0
  try clear hfz10_1
  try clear hfz10_2
  try clear hfz5_0
  try clear hfz5_1
  try clear hfz5_2
  try clear hfz7_0
  try clear hfz7_1
  try clear hfz7_2
  try clear hfz9_0
  try clear hfz9_1
  try clear hfz9_2
  obtain ⟨kq, x27_1, rfl, HA, HJ1, BK160, HB⟩ := hcut
  cases kq with
  | zero => exact absurd HA.out (by simp [image_May.j0])
  | succ kj1 =>
   have H := HA.out
   clear HA
   simp only [image_May.j0] at H
   by_cases c11 : x27_1 = true
   ·
    subst c11
    have H1 : (some false) = some r := by rw [if_pos rfl] at H; exact H
    clear H
    have H := H1
    clear H1
    obtain rfl := Option.some.inj H
    go_wp2
    go_ret
    exact ⟨by first | rfl | (simp [errW_none, errW_some] <;> rfl) | (simp [*, errW_none, errW_some] <;> rfl), by repeat (first | (with_reducible first | exact HB.out | apply below_alloc | apply pw_below_drewN | apply below_drew1 | refine below_set ?_ GE160.out) | exact HB.out)⟩
   ·
    replace c11 := Bool.eq_false_iff.mpr c11
    subst c11
    have H1 : (image_May.l0 kj1 l0_2 (l0_2.length : Int) 0 a0_0 a0_1 l0_2) = some r := by rw [if_neg (show ¬ (false = true) by decide)] at H; exact H
    clear H
    have H := H1
    clear H1
    have H' := Aside0.mk H
    clear H
    have hcz12_0 : wc.cell? ⟨gb160, 0, none⟩ = some (.int .i64 a0_0) := (blk_cell BK160.out 0).trans rfl
    have hcz12_1 : wc.cell? ⟨gb160, 1, none⟩ = some (.int .i64 a0_1) := (blk_cell BK160.out 1).trans rfl
    have hcz12_2 : wc.cell? ⟨gb160, 2, none⟩ = some (.slice A0_2 l0_2.length c0_2) := (blk_cell BK160.out 2).trans rfl
    have hfz12_0 := blk_frozen BK160.out 0
    have hfz12_1 := blk_frozen BK160.out 1
    have hfz12_2 := blk_frozen BK160.out 2
    go_wp2
    go_loopg [31] kj1 (fun kq v31 w' => ∃ (x31_2 : Int), v31 = .int .i64 x31_2 ∧ Aside0 (image_May.l0 kq l0_2 (l0_2.length : Int) x31_2 a0_0 a0_1 l0_2 = some r) ∧ Aside0 (kq ≤ kj1) ∧ Aside0 (w'.heap[gb160]? = some (.cells #[.int .i64 a0_0, .int .i64 a0_1, (.slice A0_2 l0_2.length c0_2)] 36 (0, 0))) ∧ Aside0 (Below w.heap.size w w'))
    case atStart => exact ⟨(0), (by first | rfl | (simp; done) | (simp [*]; done)), H', ⟨Nat.le_refl _⟩, ⟨by (with_reducible repeat (first | refine blk_drewN ?_ _ | refine blk_drew ?_ | refine blk_alloc ?_ _)); exact BK160.out⟩, ⟨by repeat (first | (with_reducible first | exact HB.out | apply below_alloc | apply pw_below_drewN | apply below_drew1 | refine below_set ?_ GE160.out) | exact HB.out)⟩⟩
    case round =>
     clear H'
     try clear c1
     try clear c2
     try clear p2
     try clear c4
     try clear c4b0
     try clear c6
     try clear c6b0
     try clear c8
     try clear c8b0
     try clear c11
     try clear hcz10_0
     try clear hcz10_1
     try clear hcz10_2
     try clear hcz12_0
     try clear hcz12_1
     try clear hcz12_2
     try clear hcz5_0
     try clear hcz5_1
     try clear hcz5_2
     try clear hcz7_0
     try clear hcz7_1
     try clear hcz7_2
     try clear hcz9_0
     try clear hcz9_1
     try clear hcz9_2
     try clear hfz10_0
     try clear hfz10_1
     try clear hfz10_2
     try clear hfz12_0
     try clear hfz12_1
     try clear hfz12_2
     try clear hfz5_0
     try clear hfz5_1
     try clear hfz5_2
     try clear hfz7_0
     try clear hfz7_1
     try clear hfz7_2
     try clear hfz9_0
     try clear hfz9_1
     try clear hfz9_2
     try clear p2
     obtain ⟨x31_2, rfl, HA, HK2, BK160, HB⟩ := hrel
     cases gk with
     | zero => exact absurd HA.out (by simp [image_May.l0])
     | succ k2 =>
      have H := HA.out
      clear HA
      simp only [image_May.l0] at H
      by_cases c13 : x31_2 < (l0_2.length : Int)
      ·
       rw [if_pos c13] at H
       have c13b0 : decide (x31_2 < (l0_2.length : Int)) = true := decide_eq_true c13
       clear c13
       by_cases c14 : 0 ≤ x31_2
       ·
        rw [if_pos c14] at H
        have c14b0 : decide (0 ≤ x31_2) = true := decide_eq_true c14
        clear c14
        by_cases c15 : x31_2 < (l0_2.length : Int)
        ·
         rw [if_pos c15] at H
         have c15b0 : decide (x31_2 < (l0_2.length : Int)) = true := decide_eq_true c15
         clear c15
         replace H := Option.bind_eq_some_iff.mp H
         obtain ⟨t162, A160, H⟩ := H
         replace H : (if t162 = true then (image_May.l1 k2 l0_2 (l0_2.length : Int) x31_2 (rd_L3 l0_2 x31_2) ((rd_L3 l0_2 x31_2).length : Int) 0 a0_0 a0_1 l0_2) else (some false)) = some r := H
         have A16 := Aside0.mk A160
         clear A160
         by_cases c17 : t162 = true
         ·
          subst c17
          have H1 : (image_May.l1 k2 l0_2 (l0_2.length : Int) x31_2 (rd_L3 l0_2 x31_2) ((rd_L3 l0_2 x31_2).length : Int) 0 a0_0 a0_1 l0_2) = some r := by rw [if_pos rfl] at H; exact H
          clear H
          have H := H1
          clear H1
          have H' := Aside0.mk H
          clear H
          have p161 : 0 ≤ (x31_2 : Int) := of_decide_eq_true (by first | (with_reducible assumption) | assumption)
          have q161 : x31_2 < (l0_2.length : Int) := of_decide_eq_true (by first | (with_reducible assumption) | assumption)
          obtain ⟨ad161, A161_0, c161_0, e161, hx161_0, hl161_0, hi161_0⟩ := at_L3 HR0_2.out x31_2 p161 q161
          cases e161
          replace hx161_0 := (HB.out.cell (World.block_lt_of_cell? w _ hx161_0)).trans hx161_0
          have HR161_0 := Aside0.mk hi161_0
          have HC161_0 := Aside0.mk hl161_0
          clear hi161_0 hl161_0
          replace p161 := eq_true p161
          replace q161 := eq_true q161
          go_wp2_with (first | ((with_reducible refine gate_callee (f := 33) rfl ?_); refine goesL_ (some 36) rfl rfl Try.func33 (by kernel_rfl) rfl #[.slice A161_0 (rd_L3 l0_2 x31_2).length c161_0] rfl (by (try simp only [List.map_toArray, List.map_cons, List.map_nil]); first | done | rfl | (simp only [List.length_drop, List.length_take]; rfl)) ?_; (with_reducible refine (code_Good.calls k2 _ _ (rd_L3 l0_2 x31_2) true _ ?side1 ?side2 A16.out).mono ?_); (case side1 => repeat (first | exact (Kd.C_below HR161_0.out HB.out) | (with_reducible refine Kd.C_alloc ?_ _) | (with_reducible refine Kd.C_drewN ?_ _) | (with_reducible refine Kd.C_drew ?_))); (case side2 => exact HC161_0.out); rintro e w18 ⟨rfl, hb⟩; refine ⟨_, rfl, ?_⟩; have n0_ := Aside0.mk (blk_below (g := gb160) (o := .cells #[.int .i64 a0_0, .int .i64 a0_1, .slice (some ad161) l0_2.length c0_2] 36 (0, 0)) (by (with_reducible repeat (first | refine blk_drewN ?_ _ | refine blk_drew ?_ | refine blk_alloc ?_ _)); exact BK160.out) hb); have n1_ := Aside0.mk (below_step (by repeat (first | (with_reducible first | exact HB.out | apply below_alloc | apply pw_below_drewN | apply below_drew1 | refine below_set ?_ GE160.out) | exact HB.out)) hb); clear BK160; clear HB; have BK160 := n0_; have HB := n1_; clear n0_ n1_; (try clear hb); (try clear hb2); (try clear hk); (try clear hi)))
          go_loopg [40] k2 (fun kq v40 w' => ∃ (x40_3 : Int), v40 = .int .i64 x40_3 ∧ Aside0 (image_May.l1 kq l0_2 (l0_2.length : Int) x31_2 (rd_L3 l0_2 x31_2) ((rd_L3 l0_2 x31_2).length : Int) x40_3 a0_0 a0_1 l0_2 = some r) ∧ Aside0 (kq ≤ k2) ∧ Aside0 (w'.heap[gb160]? = some (.cells #[.int .i64 a0_0, .int .i64 a0_1, (.slice (some ad161) l0_2.length c0_2)] 36 (0, 0))) ∧ Aside0 (Below w.heap.size w w'))
          case atStart => exact ⟨(0), (by first | rfl | (simp; done) | (simp [*]; done)), H', ⟨Nat.le_refl _⟩, ⟨by (with_reducible repeat (first | refine blk_drewN ?_ _ | refine blk_drew ?_ | refine blk_alloc ?_ _)); exact BK160.out⟩, ⟨by repeat (first | (with_reducible first | exact HB.out | apply below_alloc | apply pw_below_drewN | apply below_drew1 | refine below_set ?_ GE160.out) | exact HB.out)⟩⟩
          case round =>
           clear H'
           try clear c1
           try clear p1
           try clear q1
           try clear hx1
           try clear c2
           try clear p2
           try clear c3
           try clear c4
           try clear c4b0
           try clear c6
           try clear c6b0
           try clear c8
           try clear c8b0
           try clear c11
           try clear c13
           try clear c13b0
           try clear c14
           try clear c14b0
           try clear c15
           try clear c15b0
           try clear c16
           try clear p16
           try clear q16
           try clear hx16
           try clear c17
           try clear hcz10_0
           try clear hcz10_1
           try clear hcz10_2
           try clear hcz12_0
           try clear hcz12_1
           try clear hcz12_2
           try clear hcz5_0
           try clear hcz5_1
           try clear hcz5_2
           try clear hcz7_0
           try clear hcz7_1
           try clear hcz7_2
           try clear hcz9_0
           try clear hcz9_1
           try clear hcz9_2
           try clear hfz10_0
           try clear hfz10_1
           try clear hfz10_2
           try clear hfz12_0
           try clear hfz12_1
           try clear hfz12_2
           try clear hfz5_0
           try clear hfz5_1
           try clear hfz5_2
           try clear hfz7_0
           try clear hfz7_1
           try clear hfz7_2
           try clear hfz9_0
           try clear hfz9_1
           try clear hfz9_2
           try clear hx161_0
           try clear p161
           try clear p2
           try clear q161
           obtain ⟨x40_3, rfl, HA, HK3, BK160, HB⟩ := hrel
           cases gk with
           | zero => exact absurd HA.out (by simp [image_May.l1])
           | succ k3 =>
            have H := HA.out
            clear HA
            simp only [image_May.l1] at H
            by_cases c19 : x40_3 < ((rd_L3 l0_2 x31_2).length : Int)
            ·
             rw [if_pos c19] at H
             have c19b0 : decide (x40_3 < ((rd_L3 l0_2 x31_2).length : Int)) = true := decide_eq_true c19
             clear c19
             by_cases c20 : 0 ≤ x40_3
             ·
              rw [if_pos c20] at H
              have c20b0 : decide (0 ≤ x40_3) = true := decide_eq_true c20
              clear c20
              by_cases c21 : x40_3 < ((rd_L3 l0_2 x31_2).length : Int)
              ·
               rw [if_pos c21] at H
               have c21b0 : decide (x40_3 < ((rd_L3 l0_2 x31_2).length : Int)) = true := decide_eq_true c21
               clear c21
               replace H := Option.bind_eq_some_iff.mp H
               obtain ⟨t165, A220, H⟩ := H
               replace H : (if t165 = true then ((image_within.f ((rd_T28 (rd_L3 l0_2 x31_2) x40_3).f0) ((rd_T28 (rd_L3 l0_2 x31_2) x40_3).f1) ((rd_T28 (rd_L3 l0_2 x31_2) x40_3).f2) ((rd_T28 (rd_L3 l0_2 x31_2) x40_3).f3) ((rd_T28 (rd_L3 l0_2 x31_2) x40_3).f4) ((rd_T28 (rd_L3 l0_2 x31_2) x40_3).f5) ((rd_T28 (rd_L3 l0_2 x31_2) x40_3).f6) ((rd_T28 (rd_L3 l0_2 x31_2) x40_3).f7) a0_1).bind fun t166 => (if t166 = true then (image_May.l1 k3 l0_2 (l0_2.length : Int) x31_2 (rd_L3 l0_2 x31_2) ((rd_L3 l0_2 x31_2).length : Int) (wrap64 (x40_3 + 1)) a0_0 a0_1 l0_2) else (some false))) else (some false)) = some r := H
               have A22 := Aside0.mk A220
               clear A220
               by_cases c23 : t165 = true
               ·
                subst c23
                have H1 : ((image_within.f ((rd_T28 (rd_L3 l0_2 x31_2) x40_3).f0) ((rd_T28 (rd_L3 l0_2 x31_2) x40_3).f1) ((rd_T28 (rd_L3 l0_2 x31_2) x40_3).f2) ((rd_T28 (rd_L3 l0_2 x31_2) x40_3).f3) ((rd_T28 (rd_L3 l0_2 x31_2) x40_3).f4) ((rd_T28 (rd_L3 l0_2 x31_2) x40_3).f5) ((rd_T28 (rd_L3 l0_2 x31_2) x40_3).f6) ((rd_T28 (rd_L3 l0_2 x31_2) x40_3).f7) a0_1).bind fun t166 => (if t166 = true then (image_May.l1 k3 l0_2 (l0_2.length : Int) x31_2 (rd_L3 l0_2 x31_2) ((rd_L3 l0_2 x31_2).length : Int) (wrap64 (x40_3 + 1)) a0_0 a0_1 l0_2) else (some false))) = some r := by rw [if_pos rfl] at H; exact H
                clear H
                have H := H1
                clear H1
                replace H := Option.bind_eq_some_iff.mp H
                obtain ⟨t166, A240, H⟩ := H
                replace H : (if t166 = true then (image_May.l1 k3 l0_2 (l0_2.length : Int) x31_2 (rd_L3 l0_2 x31_2) ((rd_L3 l0_2 x31_2).length : Int) (wrap64 (x40_3 + 1)) a0_0 a0_1 l0_2) else (some false)) = some r := H
                have A24 := Aside0.mk A240
                clear A240
                by_cases c25 : t166 = true
                ·
                 subst c25
                 have H1 : (image_May.l1 k3 l0_2 (l0_2.length : Int) x31_2 (rd_L3 l0_2 x31_2) ((rd_L3 l0_2 x31_2).length : Int) (wrap64 (x40_3 + 1)) a0_0 a0_1 l0_2) = some r := by rw [if_pos rfl] at H; exact H
                 clear H
                 have H := H1
                 clear H1
                 have H' := Aside0.mk H
                 clear H
                 have p163 : 0 ≤ (x40_3 : Int) := of_decide_eq_true (by first | (with_reducible assumption) | assumption)
                 have q163 : x40_3 < ((rd_L3 l0_2 x31_2).length : Int) := of_decide_eq_true (by first | (with_reducible assumption) | assumption)
                 obtain ⟨ad163, e163, hx163_0, hx163_1, hx163_2, hx163_3, hx163_4, hx163_5, hx163_6, hx163_7⟩ := at_T28 HR161_0.out x40_3 p163 q163
                 cases e163
                 replace hx163_0 := (HB.out.cell (World.block_lt_of_cell? w _ hx163_0)).trans hx163_0
                 replace hx163_1 := (HB.out.cell (World.block_lt_of_cell? w _ hx163_1)).trans hx163_1
                 replace hx163_2 := (HB.out.cell (World.block_lt_of_cell? w _ hx163_2)).trans hx163_2
                 replace hx163_3 := (HB.out.cell (World.block_lt_of_cell? w _ hx163_3)).trans hx163_3
                 replace hx163_4 := (HB.out.cell (World.block_lt_of_cell? w _ hx163_4)).trans hx163_4
                 replace hx163_5 := (HB.out.cell (World.block_lt_of_cell? w _ hx163_5)).trans hx163_5
                 replace hx163_6 := (HB.out.cell (World.block_lt_of_cell? w _ hx163_6)).trans hx163_6
                 replace hx163_7 := (HB.out.cell (World.block_lt_of_cell? w _ hx163_7)).trans hx163_7
                 replace p163 := eq_true p163
                 replace q163 := eq_true q163
                 go_wp2_with (first | ((with_reducible refine gate_dst (N := 6) rfl ?_); (try (refine gate_guard (by rfl) ?_; dsimp only)); refine box_event ?hg (N := 6) ?hd (cs := #[.int .i64 0, .int .i64 0, .int .i64 0, .int .i64 0, .int .i64 0, .int .i64 0, .int .u64 0, .int .i64 0]) (t := 28) ?hr ?_; (case hd => rfl); (case hg => rfl); (case hr => first | (go_simp; done) | (go_simp; rfl)); intro gb164 hg w26 hbox hb; have n0_ := Aside0.mk (blk_below (g := gb160) (o := .cells #[.int .i64 a0_0, .int .i64 a0_1, .slice (some ad161) l0_2.length c0_2] 36 (0, 0)) (by (with_reducible repeat (first | refine blk_drewN ?_ _ | refine blk_drew ?_ | refine blk_alloc ?_ _)); exact BK160.out) hb); have n1_ := Aside0.mk (below_step (by repeat (first | (with_reducible first | exact HB.out | apply below_alloc | apply pw_below_drewN | apply below_drew1 | refine below_set ?_ GE160.out) | exact HB.out)) hb); have n2_ := Aside0.mk (hbox); have n3_ := Aside0.mk ((by rw [hg]; exact (below_size (by repeat (first | (with_reducible first | exact HB.out | apply below_alloc | apply pw_below_drewN | apply below_drew1 | refine below_set ?_ GE160.out) | exact HB.out))) : w.heap.size ≤ gb164)); have n4_ := Aside0.mk ((by rw [hg]; exact (below_size (by repeat (first | (with_reducible first | exact HB.out | apply below_alloc | apply pw_below_drewN | apply below_drew1 | refine below_set ?_ GE160.out) | exact HB.out))) : w.heap.size ≤ gb164)); have n5_ := Aside0.mk ((by rw [hg]; exact Nat.ne_of_lt (blk_lt (g := gb160) (o := .cells #[.int .i64 a0_0, .int .i64 a0_1, .slice (some ad161) l0_2.length c0_2] 36 (0, 0)) (by (with_reducible repeat (first | refine blk_drewN ?_ _ | refine blk_drew ?_ | refine blk_alloc ?_ _)); exact BK160.out)) : gb160 ≠ gb164)); have n6_ := Aside0.mk ((by rw [hg]; exact Nat.ne_of_gt (blk_lt (g := gb160) (o := .cells #[.int .i64 a0_0, .int .i64 a0_1, .slice (some ad161) l0_2.length c0_2] 36 (0, 0)) (by (with_reducible repeat (first | refine blk_drewN ?_ _ | refine blk_drew ?_ | refine blk_alloc ?_ _)); exact BK160.out)) : gb164 ≠ gb160)); clear BK160; clear HB; have BK160 := n0_; have HB := n1_; have BK164 := n2_; have GW164 := n3_; have GE164 := n4_; have NB160_164 := n5_; have NB164_160 := n6_; clear n0_ n1_ n2_ n3_ n4_ n5_ n6_; clear hb hbox hg; have hnb27 := NB164_160.out; have hnc27 := NB160_164.out; have hcz28_0 : w26.cell? ⟨gb164, 0, none⟩ = some (.int .i64 0) := (blk_cell BK164.out 0).trans rfl; have hcz28_1 : w26.cell? ⟨gb164, 1, none⟩ = some (.int .i64 0) := (blk_cell BK164.out 1).trans rfl; have hcz28_2 : w26.cell? ⟨gb164, 2, none⟩ = some (.int .i64 0) := (blk_cell BK164.out 2).trans rfl; have hcz28_3 : w26.cell? ⟨gb164, 3, none⟩ = some (.int .i64 0) := (blk_cell BK164.out 3).trans rfl; have hcz28_4 : w26.cell? ⟨gb164, 4, none⟩ = some (.int .i64 0) := (blk_cell BK164.out 4).trans rfl; have hcz28_5 : w26.cell? ⟨gb164, 5, none⟩ = some (.int .i64 0) := (blk_cell BK164.out 5).trans rfl; have hcz28_6 : w26.cell? ⟨gb164, 6, none⟩ = some (.int .u64 0) := (blk_cell BK164.out 6).trans rfl; have hcz28_7 : w26.cell? ⟨gb164, 7, none⟩ = some (.int .i64 0) := (blk_cell BK164.out 7).trans rfl; have hfz28_0 := blk_frozen BK164.out 0; have hfz28_1 := blk_frozen BK164.out 1; have hfz28_2 := blk_frozen BK164.out 2; have hfz28_3 := blk_frozen BK164.out 3; have hfz28_4 := blk_frozen BK164.out 4; have hfz28_5 := blk_frozen BK164.out 5; have hfz28_6 := blk_frozen BK164.out 6; have hfz28_7 := blk_frozen BK164.out 7) | ((with_reducible refine gate_callee (f := 34) rfl ?_); refine goesL_ (some 45) rfl rfl Try.func34 (by kernel_rfl) rfl #[.agg #[.int .i64 ((rd_T28 (rd_L3 l0_2 x31_2) x40_3).f0), .int .i64 ((rd_T28 (rd_L3 l0_2 x31_2) x40_3).f1), .int .i64 ((rd_T28 (rd_L3 l0_2 x31_2) x40_3).f2), .int .i64 ((rd_T28 (rd_L3 l0_2 x31_2) x40_3).f3), .int .i64 ((rd_T28 (rd_L3 l0_2 x31_2) x40_3).f4), .int .i64 ((rd_T28 (rd_L3 l0_2 x31_2) x40_3).f5), .int .u64 ((rd_T28 (rd_L3 l0_2 x31_2) x40_3).f6), .int .i64 ((rd_T28 (rd_L3 l0_2 x31_2) x40_3).f7)]] rfl (by (try simp only [List.map_toArray, List.map_cons, List.map_nil]); first | done | rfl | (simp only [List.length_drop, List.length_take]; rfl)) ?_; (with_reducible refine (encode_May.calls k3 ((rd_T28 (rd_L3 l0_2 x31_2) x40_3).f0) ((rd_T28 (rd_L3 l0_2 x31_2) x40_3).f1) ((rd_T28 (rd_L3 l0_2 x31_2) x40_3).f2) ((rd_T28 (rd_L3 l0_2 x31_2) x40_3).f3) ((rd_T28 (rd_L3 l0_2 x31_2) x40_3).f4) ((rd_T28 (rd_L3 l0_2 x31_2) x40_3).f5) ((rd_T28 (rd_L3 l0_2 x31_2) x40_3).f6) ((rd_T28 (rd_L3 l0_2 x31_2) x40_3).f7) true _ A22.out).mono ?_); rintro e w29 ⟨rfl, hb⟩; refine ⟨_, rfl, ?_⟩; have n0_ := Aside0.mk (blk_below (g := gb160) (o := .cells #[.int .i64 a0_0, .int .i64 a0_1, .slice (some ad161) l0_2.length c0_2] 36 (0, 0)) (by (with_reducible repeat (first | refine blk_drewN ?_ _ | refine blk_drew ?_ | refine blk_alloc ?_ _)); refine blk_far ?_ NB160_164.out _; (with_reducible repeat (first | refine blk_drewN ?_ _ | refine blk_drew ?_ | refine blk_alloc ?_ _)); refine blk_far ?_ NB160_164.out _; (with_reducible repeat (first | refine blk_drewN ?_ _ | refine blk_drew ?_ | refine blk_alloc ?_ _)); refine blk_far ?_ NB160_164.out _; (with_reducible repeat (first | refine blk_drewN ?_ _ | refine blk_drew ?_ | refine blk_alloc ?_ _)); refine blk_far ?_ NB160_164.out _; (with_reducible repeat (first | refine blk_drewN ?_ _ | refine blk_drew ?_ | refine blk_alloc ?_ _)); refine blk_far ?_ NB160_164.out _; (with_reducible repeat (first | refine blk_drewN ?_ _ | refine blk_drew ?_ | refine blk_alloc ?_ _)); refine blk_far ?_ NB160_164.out _; (with_reducible repeat (first | refine blk_drewN ?_ _ | refine blk_drew ?_ | refine blk_alloc ?_ _)); refine blk_far ?_ NB160_164.out _; (with_reducible repeat (first | refine blk_drewN ?_ _ | refine blk_drew ?_ | refine blk_alloc ?_ _)); refine blk_far ?_ NB160_164.out _; (with_reducible repeat (first | refine blk_drewN ?_ _ | refine blk_drew ?_ | refine blk_alloc ?_ _)); exact BK160.out) hb); have n1_ := Aside0.mk (blk_below (g := gb164) (o := .cells #[.int .i64 ((rd_T28 (rd_L3 l0_2 x31_2) x40_3).f0), .int .i64 ((rd_T28 (rd_L3 l0_2 x31_2) x40_3).f1), .int .i64 ((rd_T28 (rd_L3 l0_2 x31_2) x40_3).f2), .int .i64 ((rd_T28 (rd_L3 l0_2 x31_2) x40_3).f3), .int .i64 ((rd_T28 (rd_L3 l0_2 x31_2) x40_3).f4), .int .i64 ((rd_T28 (rd_L3 l0_2 x31_2) x40_3).f5), .int .u64 ((rd_T28 (rd_L3 l0_2 x31_2) x40_3).f6), .int .i64 ((rd_T28 (rd_L3 l0_2 x31_2) x40_3).f7)] 28 (0, 0)) (by (with_reducible repeat (first | refine blk_drewN ?_ _ | refine blk_drew ?_ | refine blk_alloc ?_ _)); refine blk_put (cs := #[.int .i64 ((rd_T28 (rd_L3 l0_2 x31_2) x40_3).f0), .int .i64 ((rd_T28 (rd_L3 l0_2 x31_2) x40_3).f1), .int .i64 ((rd_T28 (rd_L3 l0_2 x31_2) x40_3).f2), .int .i64 ((rd_T28 (rd_L3 l0_2 x31_2) x40_3).f3), .int .i64 ((rd_T28 (rd_L3 l0_2 x31_2) x40_3).f4), .int .i64 ((rd_T28 (rd_L3 l0_2 x31_2) x40_3).f5), .int .u64 ((rd_T28 (rd_L3 l0_2 x31_2) x40_3).f6), .int .i64 0]) ?_ 7 _ rfl; (with_reducible repeat (first | refine blk_drewN ?_ _ | refine blk_drew ?_ | refine blk_alloc ?_ _)); refine blk_put (cs := #[.int .i64 ((rd_T28 (rd_L3 l0_2 x31_2) x40_3).f0), .int .i64 ((rd_T28 (rd_L3 l0_2 x31_2) x40_3).f1), .int .i64 ((rd_T28 (rd_L3 l0_2 x31_2) x40_3).f2), .int .i64 ((rd_T28 (rd_L3 l0_2 x31_2) x40_3).f3), .int .i64 ((rd_T28 (rd_L3 l0_2 x31_2) x40_3).f4), .int .i64 ((rd_T28 (rd_L3 l0_2 x31_2) x40_3).f5), .int .u64 0, .int .i64 0]) ?_ 6 _ rfl; (with_reducible repeat (first | refine blk_drewN ?_ _ | refine blk_drew ?_ | refine blk_alloc ?_ _)); refine blk_put (cs := #[.int .i64 ((rd_T28 (rd_L3 l0_2 x31_2) x40_3).f0), .int .i64 ((rd_T28 (rd_L3 l0_2 x31_2) x40_3).f1), .int .i64 ((rd_T28 (rd_L3 l0_2 x31_2) x40_3).f2), .int .i64 ((rd_T28 (rd_L3 l0_2 x31_2) x40_3).f3), .int .i64 ((rd_T28 (rd_L3 l0_2 x31_2) x40_3).f4), .int .i64 0, .int .u64 0, .int .i64 0]) ?_ 5 _ rfl; (with_reducible repeat (first | refine blk_drewN ?_ _ | refine blk_drew ?_ | refine blk_alloc ?_ _)); refine blk_put (cs := #[.int .i64 ((rd_T28 (rd_L3 l0_2 x31_2) x40_3).f0), .int .i64 ((rd_T28 (rd_L3 l0_2 x31_2) x40_3).f1), .int .i64 ((rd_T28 (rd_L3 l0_2 x31_2) x40_3).f2), .int .i64 ((rd_T28 (rd_L3 l0_2 x31_2) x40_3).f3), .int .i64 0, .int .i64 0, .int .u64 0, .int .i64 0]) ?_ 4 _ rfl; (with_reducible repeat (first | refine blk_drewN ?_ _ | refine blk_drew ?_ | refine blk_alloc ?_ _)); refine blk_put (cs := #[.int .i64 ((rd_T28 (rd_L3 l0_2 x31_2) x40_3).f0), .int .i64 ((rd_T28 (rd_L3 l0_2 x31_2) x40_3).f1), .int .i64 ((rd_T28 (rd_L3 l0_2 x31_2) x40_3).f2), .int .i64 0, .int .i64 0, .int .i64 0, .int .u64 0, .int .i64 0]) ?_ 3 _ rfl; (with_reducible repeat (first | refine blk_drewN ?_ _ | refine blk_drew ?_ | refine blk_alloc ?_ _)); refine blk_put (cs := #[.int .i64 ((rd_T28 (rd_L3 l0_2 x31_2) x40_3).f0), .int .i64 ((rd_T28 (rd_L3 l0_2 x31_2) x40_3).f1), .int .i64 0, .int .i64 0, .int .i64 0, .int .i64 0, .int .u64 0, .int .i64 0]) ?_ 2 _ rfl; (with_reducible repeat (first | refine blk_drewN ?_ _ | refine blk_drew ?_ | refine blk_alloc ?_ _)); refine blk_put (cs := #[.int .i64 ((rd_T28 (rd_L3 l0_2 x31_2) x40_3).f0), .int .i64 0, .int .i64 0, .int .i64 0, .int .i64 0, .int .i64 0, .int .u64 0, .int .i64 0]) ?_ 1 _ rfl; (with_reducible repeat (first | refine blk_drewN ?_ _ | refine blk_drew ?_ | refine blk_alloc ?_ _)); refine blk_put (cs := #[.int .i64 0, .int .i64 0, .int .i64 0, .int .i64 0, .int .i64 0, .int .i64 0, .int .u64 0, .int .i64 0]) ?_ 0 _ rfl; (with_reducible repeat (first | refine blk_drewN ?_ _ | refine blk_drew ?_ | refine blk_alloc ?_ _)); exact BK164.out) hb); have n2_ := Aside0.mk (below_step (by repeat (first | (with_reducible first | exact HB.out | apply below_alloc | apply pw_below_drewN | apply below_drew1 | refine below_set ?_ GE160.out | refine below_set ?_ GE164.out) | exact HB.out)) hb); clear BK160; clear BK164; clear HB; have BK160 := n0_; have BK164 := n1_; have HB := n2_; clear n0_ n1_ n2_; (try clear hb); (try clear hb2); (try clear hk); (try clear hi); have hcz30_0 : w29.cell? ⟨gb164, 0, none⟩ = some (.int .i64 ((rd_T28 (rd_L3 l0_2 x31_2) x40_3).f0)) := (blk_cell BK164.out 0).trans rfl; have hcz30_1 : w29.cell? ⟨gb164, 1, none⟩ = some (.int .i64 ((rd_T28 (rd_L3 l0_2 x31_2) x40_3).f1)) := (blk_cell BK164.out 1).trans rfl; have hcz30_2 : w29.cell? ⟨gb164, 2, none⟩ = some (.int .i64 ((rd_T28 (rd_L3 l0_2 x31_2) x40_3).f2)) := (blk_cell BK164.out 2).trans rfl; have hcz30_3 : w29.cell? ⟨gb164, 3, none⟩ = some (.int .i64 ((rd_T28 (rd_L3 l0_2 x31_2) x40_3).f3)) := (blk_cell BK164.out 3).trans rfl; have hcz30_4 : w29.cell? ⟨gb164, 4, none⟩ = some (.int .i64 ((rd_T28 (rd_L3 l0_2 x31_2) x40_3).f4)) := (blk_cell BK164.out 4).trans rfl; have hcz30_5 : w29.cell? ⟨gb164, 5, none⟩ = some (.int .i64 ((rd_T28 (rd_L3 l0_2 x31_2) x40_3).f5)) := (blk_cell BK164.out 5).trans rfl; have hcz30_6 : w29.cell? ⟨gb164, 6, none⟩ = some (.int .u64 ((rd_T28 (rd_L3 l0_2 x31_2) x40_3).f6)) := (blk_cell BK164.out 6).trans rfl; have hcz30_7 : w29.cell? ⟨gb164, 7, none⟩ = some (.int .i64 ((rd_T28 (rd_L3 l0_2 x31_2) x40_3).f7)) := (blk_cell BK164.out 7).trans rfl; have hfz30_0 := blk_frozen BK164.out 0; have hfz30_1 := blk_frozen BK164.out 1; have hfz30_2 := blk_frozen BK164.out 2; have hfz30_3 := blk_frozen BK164.out 3; have hfz30_4 := blk_frozen BK164.out 4; have hfz30_5 := blk_frozen BK164.out 5; have hfz30_6 := blk_frozen BK164.out 6; have hfz30_7 := blk_frozen BK164.out 7; have hcz31_0 : w29.cell? ⟨gb160, 0, none⟩ = some (.int .i64 a0_0) := (blk_cell BK160.out 0).trans rfl; have hcz31_1 : w29.cell? ⟨gb160, 1, none⟩ = some (.int .i64 a0_1) := (blk_cell BK160.out 1).trans rfl; have hcz31_2 : w29.cell? ⟨gb160, 2, none⟩ = some (.slice (some ad161) l0_2.length c0_2) := (blk_cell BK160.out 2).trans rfl; have hfz31_0 := blk_frozen BK160.out 0; have hfz31_1 := blk_frozen BK160.out 1; have hfz31_2 := blk_frozen BK160.out 2) | (go_at_call 35; (with_reducible refine (image_within.calls ((rd_T28 (rd_L3 l0_2 x31_2) x40_3).f0) ((rd_T28 (rd_L3 l0_2 x31_2) x40_3).f1) ((rd_T28 (rd_L3 l0_2 x31_2) x40_3).f2) ((rd_T28 (rd_L3 l0_2 x31_2) x40_3).f3) ((rd_T28 (rd_L3 l0_2 x31_2) x40_3).f4) ((rd_T28 (rd_L3 l0_2 x31_2) x40_3).f5) ((rd_T28 (rd_L3 l0_2 x31_2) x40_3).f6) ((rd_T28 (rd_L3 l0_2 x31_2) x40_3).f7) a0_1 true _ A24.out).mono ?_); rintro e w32 ⟨rfl, hb⟩; have n0_ := Aside0.mk (blk_below (g := gb160) (o := .cells #[.int .i64 a0_0, .int .i64 a0_1, .slice (some ad161) l0_2.length c0_2] 36 (0, 0)) (by (with_reducible repeat (first | refine blk_drewN ?_ _ | refine blk_drew ?_ | refine blk_alloc ?_ _)); exact BK160.out) hb); have n1_ := Aside0.mk (blk_below (g := gb164) (o := .cells #[.int .i64 ((rd_T28 (rd_L3 l0_2 x31_2) x40_3).f0), .int .i64 ((rd_T28 (rd_L3 l0_2 x31_2) x40_3).f1), .int .i64 ((rd_T28 (rd_L3 l0_2 x31_2) x40_3).f2), .int .i64 ((rd_T28 (rd_L3 l0_2 x31_2) x40_3).f3), .int .i64 ((rd_T28 (rd_L3 l0_2 x31_2) x40_3).f4), .int .i64 ((rd_T28 (rd_L3 l0_2 x31_2) x40_3).f5), .int .u64 ((rd_T28 (rd_L3 l0_2 x31_2) x40_3).f6), .int .i64 ((rd_T28 (rd_L3 l0_2 x31_2) x40_3).f7)] 28 (0, 0)) (by (with_reducible repeat (first | refine blk_drewN ?_ _ | refine blk_drew ?_ | refine blk_alloc ?_ _)); exact BK164.out) hb); have n2_ := Aside0.mk (below_step (by repeat (first | (with_reducible first | exact HB.out | apply below_alloc | apply pw_below_drewN | apply below_drew1 | refine below_set ?_ GE160.out | refine below_set ?_ GE164.out) | exact HB.out)) hb); clear BK160; clear BK164; clear HB; have BK160 := n0_; have BK164 := n1_; have HB := n2_; clear n0_ n1_ n2_; (try clear hb); (try clear hb2); (try clear hk); (try clear hi)))
                 go_roundg k3
                 case measure => have := HJ1.out; have := HK2.out; have := HK3.out; omega
                 case rel => exact ⟨(wrap64 (x40_3 + 1)), (by first | rfl | (simp; done) | (simp [*]; done)), H', ⟨by have := HJ1.out; have := HK2.out; have := HK3.out; omega⟩, ⟨by (with_reducible repeat (first | refine blk_drewN ?_ _ | refine blk_drew ?_ | refine blk_alloc ?_ _)); exact BK160.out⟩, ⟨by repeat (first | (with_reducible first | exact HB.out | apply below_alloc | apply pw_below_drewN | apply below_drew1 | refine below_set ?_ GE160.out | refine below_set ?_ GE164.out) | exact HB.out)⟩⟩
                ·
                 replace c25 := Bool.eq_false_iff.mpr c25
                 subst c25
                 have H1 : (some false) = some r := by rw [if_neg (show ¬ (false = true) by decide)] at H; exact H
                 clear H
                 have H := H1
                 clear H1
                 obtain rfl := Option.some.inj H
                 have p163 : 0 ≤ (x40_3 : Int) := of_decide_eq_true (by first | (with_reducible assumption) | assumption)
                 have q163 : x40_3 < ((rd_L3 l0_2 x31_2).length : Int) := of_decide_eq_true (by first | (with_reducible assumption) | assumption)
                 obtain ⟨ad163, e163, hx163_0, hx163_1, hx163_2, hx163_3, hx163_4, hx163_5, hx163_6, hx163_7⟩ := at_T28 HR161_0.out x40_3 p163 q163
                 cases e163
                 replace hx163_0 := (HB.out.cell (World.block_lt_of_cell? w _ hx163_0)).trans hx163_0
                 replace hx163_1 := (HB.out.cell (World.block_lt_of_cell? w _ hx163_1)).trans hx163_1
                 replace hx163_2 := (HB.out.cell (World.block_lt_of_cell? w _ hx163_2)).trans hx163_2
                 replace hx163_3 := (HB.out.cell (World.block_lt_of_cell? w _ hx163_3)).trans hx163_3
                 replace hx163_4 := (HB.out.cell (World.block_lt_of_cell? w _ hx163_4)).trans hx163_4
                 replace hx163_5 := (HB.out.cell (World.block_lt_of_cell? w _ hx163_5)).trans hx163_5
                 replace hx163_6 := (HB.out.cell (World.block_lt_of_cell? w _ hx163_6)).trans hx163_6
                 replace hx163_7 := (HB.out.cell (World.block_lt_of_cell? w _ hx163_7)).trans hx163_7
                 replace p163 := eq_true p163
                 replace q163 := eq_true q163
                 go_wp2_with (first | ((with_reducible refine gate_dst (N := 6) rfl ?_); (try (refine gate_guard (by rfl) ?_; dsimp only)); refine box_event ?hg (N := 6) ?hd (cs := #[.int .i64 0, .int .i64 0, .int .i64 0, .int .i64 0, .int .i64 0, .int .i64 0, .int .u64 0, .int .i64 0]) (t := 28) ?hr ?_; (case hd => rfl); (case hg => rfl); (case hr => first | (go_simp; done) | (go_simp; rfl)); intro gb164 hg w33 hbox hb; have n0_ := Aside0.mk (blk_below (g := gb160) (o := .cells #[.int .i64 a0_0, .int .i64 a0_1, .slice (some ad161) l0_2.length c0_2] 36 (0, 0)) (by (with_reducible repeat (first | refine blk_drewN ?_ _ | refine blk_drew ?_ | refine blk_alloc ?_ _)); exact BK160.out) hb); have n1_ := Aside0.mk (below_step (by repeat (first | (with_reducible first | exact HB.out | apply below_alloc | apply pw_below_drewN | apply below_drew1 | refine below_set ?_ GE160.out) | exact HB.out)) hb); have n2_ := Aside0.mk (hbox); have n3_ := Aside0.mk ((by rw [hg]; exact (below_size (by repeat (first | (with_reducible first | exact HB.out | apply below_alloc | apply pw_below_drewN | apply below_drew1 | refine below_set ?_ GE160.out) | exact HB.out))) : w.heap.size ≤ gb164)); have n4_ := Aside0.mk ((by rw [hg]; exact (below_size (by repeat (first | (with_reducible first | exact HB.out | apply below_alloc | apply pw_below_drewN | apply below_drew1 | refine below_set ?_ GE160.out) | exact HB.out))) : w.heap.size ≤ gb164)); have n5_ := Aside0.mk ((by rw [hg]; exact Nat.ne_of_lt (blk_lt (g := gb160) (o := .cells #[.int .i64 a0_0, .int .i64 a0_1, .slice (some ad161) l0_2.length c0_2] 36 (0, 0)) (by (with_reducible repeat (first | refine blk_drewN ?_ _ | refine blk_drew ?_ | refine blk_alloc ?_ _)); exact BK160.out)) : gb160 ≠ gb164)); have n6_ := Aside0.mk ((by rw [hg]; exact Nat.ne_of_gt (blk_lt (g := gb160) (o := .cells #[.int .i64 a0_0, .int .i64 a0_1, .slice (some ad161) l0_2.length c0_2] 36 (0, 0)) (by (with_reducible repeat (first | refine blk_drewN ?_ _ | refine blk_drew ?_ | refine blk_alloc ?_ _)); exact BK160.out)) : gb164 ≠ gb160)); clear BK160; clear HB; have BK160 := n0_; have HB := n1_; have BK164 := n2_; have GW164 := n3_; have GE164 := n4_; have NB160_164 := n5_; have NB164_160 := n6_; clear n0_ n1_ n2_ n3_ n4_ n5_ n6_; clear hb hbox hg; have hnb34 := NB164_160.out; have hnc34 := NB160_164.out; have hcz35_0 : w33.cell? ⟨gb164, 0, none⟩ = some (.int .i64 0) := (blk_cell BK164.out 0).trans rfl; have hcz35_1 : w33.cell? ⟨gb164, 1, none⟩ = some (.int .i64 0) := (blk_cell BK164.out 1).trans rfl; have hcz35_2 : w33.cell? ⟨gb164, 2, none⟩ = some (.int .i64 0) := (blk_cell BK164.out 2).trans rfl; have hcz35_3 : w33.cell? ⟨gb164, 3, none⟩ = some (.int .i64 0) := (blk_cell BK164.out 3).trans rfl; have hcz35_4 : w33.cell? ⟨gb164, 4, none⟩ = some (.int .i64 0) := (blk_cell BK164.out 4).trans rfl; have hcz35_5 : w33.cell? ⟨gb164, 5, none⟩ = some (.int .i64 0) := (blk_cell BK164.out 5).trans rfl; have hcz35_6 : w33.cell? ⟨gb164, 6, none⟩ = some (.int .u64 0) := (blk_cell BK164.out 6).trans rfl; have hcz35_7 : w33.cell? ⟨gb164, 7, none⟩ = some (.int .i64 0) := (blk_cell BK164.out 7).trans rfl; have hfz35_0 := blk_frozen BK164.out 0; have hfz35_1 := blk_frozen BK164.out 1; have hfz35_2 := blk_frozen BK164.out 2; have hfz35_3 := blk_frozen BK164.out 3; have hfz35_4 := blk_frozen BK164.out 4; have hfz35_5 := blk_frozen BK164.out 5; have hfz35_6 := blk_frozen BK164.out 6; have hfz35_7 := blk_frozen BK164.out 7) | ((with_reducible refine gate_callee (f := 34) rfl ?_); refine goesL_ (some 45) rfl rfl Try.func34 (by kernel_rfl) rfl #[.agg #[.int .i64 ((rd_T28 (rd_L3 l0_2 x31_2) x40_3).f0), .int .i64 ((rd_T28 (rd_L3 l0_2 x31_2) x40_3).f1), .int .i64 ((rd_T28 (rd_L3 l0_2 x31_2) x40_3).f2), .int .i64 ((rd_T28 (rd_L3 l0_2 x31_2) x40_3).f3), .int .i64 ((rd_T28 (rd_L3 l0_2 x31_2) x40_3).f4), .int .i64 ((rd_T28 (rd_L3 l0_2 x31_2) x40_3).f5), .int .u64 ((rd_T28 (rd_L3 l0_2 x31_2) x40_3).f6), .int .i64 ((rd_T28 (rd_L3 l0_2 x31_2) x40_3).f7)]] rfl (by (try simp only [List.map_toArray, List.map_cons, List.map_nil]); first | done | rfl | (simp only [List.length_drop, List.length_take]; rfl)) ?_; (with_reducible refine (encode_May.calls k3 ((rd_T28 (rd_L3 l0_2 x31_2) x40_3).f0) ((rd_T28 (rd_L3 l0_2 x31_2) x40_3).f1) ((rd_T28 (rd_L3 l0_2 x31_2) x40_3).f2) ((rd_T28 (rd_L3 l0_2 x31_2) x40_3).f3) ((rd_T28 (rd_L3 l0_2 x31_2) x40_3).f4) ((rd_T28 (rd_L3 l0_2 x31_2) x40_3).f5) ((rd_T28 (rd_L3 l0_2 x31_2) x40_3).f6) ((rd_T28 (rd_L3 l0_2 x31_2) x40_3).f7) true _ A22.out).mono ?_); rintro e w36 ⟨rfl, hb⟩; refine ⟨_, rfl, ?_⟩; have n0_ := Aside0.mk (blk_below (g := gb160) (o := .cells #[.int .i64 a0_0, .int .i64 a0_1, .slice (some ad161) l0_2.length c0_2] 36 (0, 0)) (by (with_reducible repeat (first | refine blk_drewN ?_ _ | refine blk_drew ?_ | refine blk_alloc ?_ _)); refine blk_far ?_ NB160_164.out _; (with_reducible repeat (first | refine blk_drewN ?_ _ | refine blk_drew ?_ | refine blk_alloc ?_ _)); refine blk_far ?_ NB160_164.out _; (with_reducible repeat (first | refine blk_drewN ?_ _ | refine blk_drew ?_ | refine blk_alloc ?_ _)); refine blk_far ?_ NB160_164.out _; (with_reducible repeat (first | refine blk_drewN ?_ _ | refine blk_drew ?_ | refine blk_alloc ?_ _)); refine blk_far ?_ NB160_164.out _; (with_reducible repeat (first | refine blk_drewN ?_ _ | refine blk_drew ?_ | refine blk_alloc ?_ _)); refine blk_far ?_ NB160_164.out _; (with_reducible repeat (first | refine blk_drewN ?_ _ | refine blk_drew ?_ | refine blk_alloc ?_ _)); refine blk_far ?_ NB160_164.out _; (with_reducible repeat (first | refine blk_drewN ?_ _ | refine blk_drew ?_ | refine blk_alloc ?_ _)); refine blk_far ?_ NB160_164.out _; (with_reducible repeat (first | refine blk_drewN ?_ _ | refine blk_drew ?_ | refine blk_alloc ?_ _)); refine blk_far ?_ NB160_164.out _; (with_reducible repeat (first | refine blk_drewN ?_ _ | refine blk_drew ?_ | refine blk_alloc ?_ _)); exact BK160.out) hb); have n1_ := Aside0.mk (blk_below (g := gb164) (o := .cells #[.int .i64 ((rd_T28 (rd_L3 l0_2 x31_2) x40_3).f0), .int .i64 ((rd_T28 (rd_L3 l0_2 x31_2) x40_3).f1), .int .i64 ((rd_T28 (rd_L3 l0_2 x31_2) x40_3).f2), .int .i64 ((rd_T28 (rd_L3 l0_2 x31_2) x40_3).f3), .int .i64 ((rd_T28 (rd_L3 l0_2 x31_2) x40_3).f4), .int .i64 ((rd_T28 (rd_L3 l0_2 x31_2) x40_3).f5), .int .u64 ((rd_T28 (rd_L3 l0_2 x31_2) x40_3).f6), .int .i64 ((rd_T28 (rd_L3 l0_2 x31_2) x40_3).f7)] 28 (0, 0)) (by (with_reducible repeat (first | refine blk_drewN ?_ _ | refine blk_drew ?_ | refine blk_alloc ?_ _)); refine blk_put (cs := #[.int .i64 ((rd_T28 (rd_L3 l0_2 x31_2) x40_3).f0), .int .i64 ((rd_T28 (rd_L3 l0_2 x31_2) x40_3).f1), .int .i64 ((rd_T28 (rd_L3 l0_2 x31_2) x40_3).f2), .int .i64 ((rd_T28 (rd_L3 l0_2 x31_2) x40_3).f3), .int .i64 ((rd_T28 (rd_L3 l0_2 x31_2) x40_3).f4), .int .i64 ((rd_T28 (rd_L3 l0_2 x31_2) x40_3).f5), .int .u64 ((rd_T28 (rd_L3 l0_2 x31_2) x40_3).f6), .int .i64 0]) ?_ 7 _ rfl; (with_reducible repeat (first | refine blk_drewN ?_ _ | refine blk_drew ?_ | refine blk_alloc ?_ _)); refine blk_put (cs := #[.int .i64 ((rd_T28 (rd_L3 l0_2 x31_2) x40_3).f0), .int .i64 ((rd_T28 (rd_L3 l0_2 x31_2) x40_3).f1), .int .i64 ((rd_T28 (rd_L3 l0_2 x31_2) x40_3).f2), .int .i64 ((rd_T28 (rd_L3 l0_2 x31_2) x40_3).f3), .int .i64 ((rd_T28 (rd_L3 l0_2 x31_2) x40_3).f4), .int .i64 ((rd_T28 (rd_L3 l0_2 x31_2) x40_3).f5), .int .u64 0, .int .i64 0]) ?_ 6 _ rfl; (with_reducible repeat (first | refine blk_drewN ?_ _ | refine blk_drew ?_ | refine blk_alloc ?_ _)); refine blk_put (cs := #[.int .i64 ((rd_T28 (rd_L3 l0_2 x31_2) x40_3).f0), .int .i64 ((rd_T28 (rd_L3 l0_2 x31_2) x40_3).f1), .int .i64 ((rd_T28 (rd_L3 l0_2 x31_2) x40_3).f2), .int .i64 ((rd_T28 (rd_L3 l0_2 x31_2) x40_3).f3), .int .i64 ((rd_T28 (rd_L3 l0_2 x31_2) x40_3).f4), .int .i64 0, .int .u64 0, .int .i64 0]) ?_ 5 _ rfl; (with_reducible repeat (first | refine blk_drewN ?_ _ | refine blk_drew ?_ | refine blk_alloc ?_ _)); refine blk_put (cs := #[.int .i64 ((rd_T28 (rd_L3 l0_2 x31_2) x40_3).f0), .int .i64 ((rd_T28 (rd_L3 l0_2 x31_2) x40_3).f1), .int .i64 ((rd_T28 (rd_L3 l0_2 x31_2) x40_3).f2), .int .i64 ((rd_T28 (rd_L3 l0_2 x31_2) x40_3).f3), .int .i64 0, .int .i64 0, .int .u64 0, .int .i64 0]) ?_ 4 _ rfl; (with_reducible repeat (first | refine blk_drewN ?_ _ | refine blk_drew ?_ | refine blk_alloc ?_ _)); refine blk_put (cs := #[.int .i64 ((rd_T28 (rd_L3 l0_2 x31_2) x40_3).f0), .int .i64 ((rd_T28 (rd_L3 l0_2 x31_2) x40_3).f1), .int .i64 ((rd_T28 (rd_L3 l0_2 x31_2) x40_3).f2), .int .i64 0, .int .i64 0, .int .i64 0, .int .u64 0, .int .i64 0]) ?_ 3 _ rfl; (with_reducible repeat (first | refine blk_drewN ?_ _ | refine blk_drew ?_ | refine blk_alloc ?_ _)); refine blk_put (cs := #[.int .i64 ((rd_T28 (rd_L3 l0_2 x31_2) x40_3).f0), .int .i64 ((rd_T28 (rd_L3 l0_2 x31_2) x40_3).f1), .int .i64 0, .int .i64 0, .int .i64 0, .int .i64 0, .int .u64 0, .int .i64 0]) ?_ 2 _ rfl; (with_reducible repeat (first | refine blk_drewN ?_ _ | refine blk_drew ?_ | refine blk_alloc ?_ _)); refine blk_put (cs := #[.int .i64 ((rd_T28 (rd_L3 l0_2 x31_2) x40_3).f0), .int .i64 0, .int .i64 0, .int .i64 0, .int .i64 0, .int .i64 0, .int .u64 0, .int .i64 0]) ?_ 1 _ rfl; (with_reducible repeat (first | refine blk_drewN ?_ _ | refine blk_drew ?_ | refine blk_alloc ?_ _)); refine blk_put (cs := #[.int .i64 0, .int .i64 0, .int .i64 0, .int .i64 0, .int .i64 0, .int .i64 0, .int .u64 0, .int .i64 0]) ?_ 0 _ rfl; (with_reducible repeat (first | refine blk_drewN ?_ _ | refine blk_drew ?_ | refine blk_alloc ?_ _)); exact BK164.out) hb); have n2_ := Aside0.mk (below_step (by repeat (first | (with_reducible first | exact HB.out | apply below_alloc | apply pw_below_drewN | apply below_drew1 | refine below_set ?_ GE160.out | refine below_set ?_ GE164.out) | exact HB.out)) hb); clear BK160; clear BK164; clear HB; have BK160 := n0_; have BK164 := n1_; have HB := n2_; clear n0_ n1_ n2_; (try clear hb); (try clear hb2); (try clear hk); (try clear hi); have hcz37_0 : w36.cell? ⟨gb164, 0, none⟩ = some (.int .i64 ((rd_T28 (rd_L3 l0_2 x31_2) x40_3).f0)) := (blk_cell BK164.out 0).trans rfl; have hcz37_1 : w36.cell? ⟨gb164, 1, none⟩ = some (.int .i64 ((rd_T28 (rd_L3 l0_2 x31_2) x40_3).f1)) := (blk_cell BK164.out 1).trans rfl; have hcz37_2 : w36.cell? ⟨gb164, 2, none⟩ = some (.int .i64 ((rd_T28 (rd_L3 l0_2 x31_2) x40_3).f2)) := (blk_cell BK164.out 2).trans rfl; have hcz37_3 : w36.cell? ⟨gb164, 3, none⟩ = some (.int .i64 ((rd_T28 (rd_L3 l0_2 x31_2) x40_3).f3)) := (blk_cell BK164.out 3).trans rfl; have hcz37_4 : w36.cell? ⟨gb164, 4, none⟩ = some (.int .i64 ((rd_T28 (rd_L3 l0_2 x31_2) x40_3).f4)) := (blk_cell BK164.out 4).trans rfl; have hcz37_5 : w36.cell? ⟨gb164, 5, none⟩ = some (.int .i64 ((rd_T28 (rd_L3 l0_2 x31_2) x40_3).f5)) := (blk_cell BK164.out 5).trans rfl; have hcz37_6 : w36.cell? ⟨gb164, 6, none⟩ = some (.int .u64 ((rd_T28 (rd_L3 l0_2 x31_2) x40_3).f6)) := (blk_cell BK164.out 6).trans rfl; have hcz37_7 : w36.cell? ⟨gb164, 7, none⟩ = some (.int .i64 ((rd_T28 (rd_L3 l0_2 x31_2) x40_3).f7)) := (blk_cell BK164.out 7).trans rfl; have hfz37_0 := blk_frozen BK164.out 0; have hfz37_1 := blk_frozen BK164.out 1; have hfz37_2 := blk_frozen BK164.out 2; have hfz37_3 := blk_frozen BK164.out 3; have hfz37_4 := blk_frozen BK164.out 4; have hfz37_5 := blk_frozen BK164.out 5; have hfz37_6 := blk_frozen BK164.out 6; have hfz37_7 := blk_frozen BK164.out 7; have hcz38_0 : w36.cell? ⟨gb160, 0, none⟩ = some (.int .i64 a0_0) := (blk_cell BK160.out 0).trans rfl; have hcz38_1 : w36.cell? ⟨gb160, 1, none⟩ = some (.int .i64 a0_1) := (blk_cell BK160.out 1).trans rfl; have hcz38_2 : w36.cell? ⟨gb160, 2, none⟩ = some (.slice (some ad161) l0_2.length c0_2) := (blk_cell BK160.out 2).trans rfl; have hfz38_0 := blk_frozen BK160.out 0; have hfz38_1 := blk_frozen BK160.out 1; have hfz38_2 := blk_frozen BK160.out 2) | (go_at_call 35; (with_reducible refine (image_within.calls ((rd_T28 (rd_L3 l0_2 x31_2) x40_3).f0) ((rd_T28 (rd_L3 l0_2 x31_2) x40_3).f1) ((rd_T28 (rd_L3 l0_2 x31_2) x40_3).f2) ((rd_T28 (rd_L3 l0_2 x31_2) x40_3).f3) ((rd_T28 (rd_L3 l0_2 x31_2) x40_3).f4) ((rd_T28 (rd_L3 l0_2 x31_2) x40_3).f5) ((rd_T28 (rd_L3 l0_2 x31_2) x40_3).f6) ((rd_T28 (rd_L3 l0_2 x31_2) x40_3).f7) a0_1 false _ A24.out).mono ?_); rintro e w39 ⟨rfl, hb⟩; have n0_ := Aside0.mk (blk_below (g := gb160) (o := .cells #[.int .i64 a0_0, .int .i64 a0_1, .slice (some ad161) l0_2.length c0_2] 36 (0, 0)) (by (with_reducible repeat (first | refine blk_drewN ?_ _ | refine blk_drew ?_ | refine blk_alloc ?_ _)); exact BK160.out) hb); have n1_ := Aside0.mk (blk_below (g := gb164) (o := .cells #[.int .i64 ((rd_T28 (rd_L3 l0_2 x31_2) x40_3).f0), .int .i64 ((rd_T28 (rd_L3 l0_2 x31_2) x40_3).f1), .int .i64 ((rd_T28 (rd_L3 l0_2 x31_2) x40_3).f2), .int .i64 ((rd_T28 (rd_L3 l0_2 x31_2) x40_3).f3), .int .i64 ((rd_T28 (rd_L3 l0_2 x31_2) x40_3).f4), .int .i64 ((rd_T28 (rd_L3 l0_2 x31_2) x40_3).f5), .int .u64 ((rd_T28 (rd_L3 l0_2 x31_2) x40_3).f6), .int .i64 ((rd_T28 (rd_L3 l0_2 x31_2) x40_3).f7)] 28 (0, 0)) (by (with_reducible repeat (first | refine blk_drewN ?_ _ | refine blk_drew ?_ | refine blk_alloc ?_ _)); exact BK164.out) hb); have n2_ := Aside0.mk (below_step (by repeat (first | (with_reducible first | exact HB.out | apply below_alloc | apply pw_below_drewN | apply below_drew1 | refine below_set ?_ GE160.out | refine below_set ?_ GE164.out) | exact HB.out)) hb); clear BK160; clear BK164; clear HB; have BK160 := n0_; have BK164 := n1_; have HB := n2_; clear n0_ n1_ n2_; (try clear hb); (try clear hb2); (try clear hk); (try clear hi)))
                 go_ret
                 exact ⟨by first | rfl | (simp [errW_none, errW_some] <;> rfl) | (simp [*, errW_none, errW_some] <;> rfl), by repeat (first | (with_reducible first | exact HB.out | apply below_alloc | apply pw_below_drewN | apply below_drew1 | refine below_set ?_ GE160.out | refine below_set ?_ GE164.out) | exact HB.out)⟩
               ·
                replace c23 := Bool.eq_false_iff.mpr c23
                subst c23
                have H1 : (some false) = some r := by rw [if_neg (show ¬ (false = true) by decide)] at H; exact H
                clear H
                have H := H1
                clear H1
                obtain rfl := Option.some.inj H
                have p163 : 0 ≤ (x40_3 : Int) := of_decide_eq_true (by first | (with_reducible assumption) | assumption)
                have q163 : x40_3 < ((rd_L3 l0_2 x31_2).length : Int) := of_decide_eq_true (by first | (with_reducible assumption) | assumption)
                obtain ⟨ad163, e163, hx163_0, hx163_1, hx163_2, hx163_3, hx163_4, hx163_5, hx163_6, hx163_7⟩ := at_T28 HR161_0.out x40_3 p163 q163
                cases e163
                replace hx163_0 := (HB.out.cell (World.block_lt_of_cell? w _ hx163_0)).trans hx163_0
                replace hx163_1 := (HB.out.cell (World.block_lt_of_cell? w _ hx163_1)).trans hx163_1
                replace hx163_2 := (HB.out.cell (World.block_lt_of_cell? w _ hx163_2)).trans hx163_2
                replace hx163_3 := (HB.out.cell (World.block_lt_of_cell? w _ hx163_3)).trans hx163_3
                replace hx163_4 := (HB.out.cell (World.block_lt_of_cell? w _ hx163_4)).trans hx163_4
                replace hx163_5 := (HB.out.cell (World.block_lt_of_cell? w _ hx163_5)).trans hx163_5
                replace hx163_6 := (HB.out.cell (World.block_lt_of_cell? w _ hx163_6)).trans hx163_6
                replace hx163_7 := (HB.out.cell (World.block_lt_of_cell? w _ hx163_7)).trans hx163_7
                replace p163 := eq_true p163
                replace q163 := eq_true q163
                go_wp2_with (first | ((with_reducible refine gate_dst (N := 6) rfl ?_); (try (refine gate_guard (by rfl) ?_; dsimp only)); refine box_event ?hg (N := 6) ?hd (cs := #[.int .i64 0, .int .i64 0, .int .i64 0, .int .i64 0, .int .i64 0, .int .i64 0, .int .u64 0, .int .i64 0]) (t := 28) ?hr ?_; (case hd => rfl); (case hg => rfl); (case hr => first | (go_simp; done) | (go_simp; rfl)); intro gb164 hg w40 hbox hb; have n0_ := Aside0.mk (blk_below (g := gb160) (o := .cells #[.int .i64 a0_0, .int .i64 a0_1, .slice (some ad161) l0_2.length c0_2] 36 (0, 0)) (by (with_reducible repeat (first | refine blk_drewN ?_ _ | refine blk_drew ?_ | refine blk_alloc ?_ _)); exact BK160.out) hb); have n1_ := Aside0.mk (below_step (by repeat (first | (with_reducible first | exact HB.out | apply below_alloc | apply pw_below_drewN | apply below_drew1 | refine below_set ?_ GE160.out) | exact HB.out)) hb); have n2_ := Aside0.mk (hbox); have n3_ := Aside0.mk ((by rw [hg]; exact (below_size (by repeat (first | (with_reducible first | exact HB.out | apply below_alloc | apply pw_below_drewN | apply below_drew1 | refine below_set ?_ GE160.out) | exact HB.out))) : w.heap.size ≤ gb164)); have n4_ := Aside0.mk ((by rw [hg]; exact (below_size (by repeat (first | (with_reducible first | exact HB.out | apply below_alloc | apply pw_below_drewN | apply below_drew1 | refine below_set ?_ GE160.out) | exact HB.out))) : w.heap.size ≤ gb164)); have n5_ := Aside0.mk ((by rw [hg]; exact Nat.ne_of_lt (blk_lt (g := gb160) (o := .cells #[.int .i64 a0_0, .int .i64 a0_1, .slice (some ad161) l0_2.length c0_2] 36 (0, 0)) (by (with_reducible repeat (first | refine blk_drewN ?_ _ | refine blk_drew ?_ | refine blk_alloc ?_ _)); exact BK160.out)) : gb160 ≠ gb164)); have n6_ := Aside0.mk ((by rw [hg]; exact Nat.ne_of_gt (blk_lt (g := gb160) (o := .cells #[.int .i64 a0_0, .int .i64 a0_1, .slice (some ad161) l0_2.length c0_2] 36 (0, 0)) (by (with_reducible repeat (first | refine blk_drewN ?_ _ | refine blk_drew ?_ | refine blk_alloc ?_ _)); exact BK160.out)) : gb164 ≠ gb160)); clear BK160; clear HB; have BK160 := n0_; have HB := n1_; have BK164 := n2_; have GW164 := n3_; have GE164 := n4_; have NB160_164 := n5_; have NB164_160 := n6_; clear n0_ n1_ n2_ n3_ n4_ n5_ n6_; clear hb hbox hg; have hnb41 := NB164_160.out; have hnc41 := NB160_164.out; have hcz42_0 : w40.cell? ⟨gb164, 0, none⟩ = some (.int .i64 0) := (blk_cell BK164.out 0).trans rfl; have hcz42_1 : w40.cell? ⟨gb164, 1, none⟩ = some (.int .i64 0) := (blk_cell BK164.out 1).trans rfl; have hcz42_2 : w40.cell? ⟨gb164, 2, none⟩ = some (.int .i64 0) := (blk_cell BK164.out 2).trans rfl; have hcz42_3 : w40.cell? ⟨gb164, 3, none⟩ = some (.int .i64 0) := (blk_cell BK164.out 3).trans rfl; have hcz42_4 : w40.cell? ⟨gb164, 4, none⟩ = some (.int .i64 0) := (blk_cell BK164.out 4).trans rfl; have hcz42_5 : w40.cell? ⟨gb164, 5, none⟩ = some (.int .i64 0) := (blk_cell BK164.out 5).trans rfl; have hcz42_6 : w40.cell? ⟨gb164, 6, none⟩ = some (.int .u64 0) := (blk_cell BK164.out 6).trans rfl; have hcz42_7 : w40.cell? ⟨gb164, 7, none⟩ = some (.int .i64 0) := (blk_cell BK164.out 7).trans rfl; have hfz42_0 := blk_frozen BK164.out 0; have hfz42_1 := blk_frozen BK164.out 1; have hfz42_2 := blk_frozen BK164.out 2; have hfz42_3 := blk_frozen BK164.out 3; have hfz42_4 := blk_frozen BK164.out 4; have hfz42_5 := blk_frozen BK164.out 5; have hfz42_6 := blk_frozen BK164.out 6; have hfz42_7 := blk_frozen BK164.out 7) | ((with_reducible refine gate_callee (f := 34) rfl ?_); refine goesL_ (some 45) rfl rfl Try.func34 (by kernel_rfl) rfl #[.agg #[.int .i64 ((rd_T28 (rd_L3 l0_2 x31_2) x40_3).f0), .int .i64 ((rd_T28 (rd_L3 l0_2 x31_2) x40_3).f1), .int .i64 ((rd_T28 (rd_L3 l0_2 x31_2) x40_3).f2), .int .i64 ((rd_T28 (rd_L3 l0_2 x31_2) x40_3).f3), .int .i64 ((rd_T28 (rd_L3 l0_2 x31_2) x40_3).f4), .int .i64 ((rd_T28 (rd_L3 l0_2 x31_2) x40_3).f5), .int .u64 ((rd_T28 (rd_L3 l0_2 x31_2) x40_3).f6), .int .i64 ((rd_T28 (rd_L3 l0_2 x31_2) x40_3).f7)]] rfl (by (try simp only [List.map_toArray, List.map_cons, List.map_nil]); first | done | rfl | (simp only [List.length_drop, List.length_take]; rfl)) ?_; (with_reducible refine (encode_May.calls k3 ((rd_T28 (rd_L3 l0_2 x31_2) x40_3).f0) ((rd_T28 (rd_L3 l0_2 x31_2) x40_3).f1) ((rd_T28 (rd_L3 l0_2 x31_2) x40_3).f2) ((rd_T28 (rd_L3 l0_2 x31_2) x40_3).f3) ((rd_T28 (rd_L3 l0_2 x31_2) x40_3).f4) ((rd_T28 (rd_L3 l0_2 x31_2) x40_3).f5) ((rd_T28 (rd_L3 l0_2 x31_2) x40_3).f6) ((rd_T28 (rd_L3 l0_2 x31_2) x40_3).f7) false _ A22.out).mono ?_); rintro e w43 ⟨rfl, hb⟩; refine ⟨_, rfl, ?_⟩; have n0_ := Aside0.mk (blk_below (g := gb160) (o := .cells #[.int .i64 a0_0, .int .i64 a0_1, .slice (some ad161) l0_2.length c0_2] 36 (0, 0)) (by (with_reducible repeat (first | refine blk_drewN ?_ _ | refine blk_drew ?_ | refine blk_alloc ?_ _)); refine blk_far ?_ NB160_164.out _; (with_reducible repeat (first | refine blk_drewN ?_ _ | refine blk_drew ?_ | refine blk_alloc ?_ _)); refine blk_far ?_ NB160_164.out _; (with_reducible repeat (first | refine blk_drewN ?_ _ | refine blk_drew ?_ | refine blk_alloc ?_ _)); refine blk_far ?_ NB160_164.out _; (with_reducible repeat (first | refine blk_drewN ?_ _ | refine blk_drew ?_ | refine blk_alloc ?_ _)); refine blk_far ?_ NB160_164.out _; (with_reducible repeat (first | refine blk_drewN ?_ _ | refine blk_drew ?_ | refine blk_alloc ?_ _)); refine blk_far ?_ NB160_164.out _; (with_reducible repeat (first | refine blk_drewN ?_ _ | refine blk_drew ?_ | refine blk_alloc ?_ _)); refine blk_far ?_ NB160_164.out _; (with_reducible repeat (first | refine blk_drewN ?_ _ | refine blk_drew ?_ | refine blk_alloc ?_ _)); refine blk_far ?_ NB160_164.out _; (with_reducible repeat (first | refine blk_drewN ?_ _ | refine blk_drew ?_ | refine blk_alloc ?_ _)); refine blk_far ?_ NB160_164.out _; (with_reducible repeat (first | refine blk_drewN ?_ _ | refine blk_drew ?_ | refine blk_alloc ?_ _)); exact BK160.out) hb); have n1_ := Aside0.mk (blk_below (g := gb164) (o := .cells #[.int .i64 ((rd_T28 (rd_L3 l0_2 x31_2) x40_3).f0), .int .i64 ((rd_T28 (rd_L3 l0_2 x31_2) x40_3).f1), .int .i64 ((rd_T28 (rd_L3 l0_2 x31_2) x40_3).f2), .int .i64 ((rd_T28 (rd_L3 l0_2 x31_2) x40_3).f3), .int .i64 ((rd_T28 (rd_L3 l0_2 x31_2) x40_3).f4), .int .i64 ((rd_T28 (rd_L3 l0_2 x31_2) x40_3).f5), .int .u64 ((rd_T28 (rd_L3 l0_2 x31_2) x40_3).f6), .int .i64 ((rd_T28 (rd_L3 l0_2 x31_2) x40_3).f7)] 28 (0, 0)) (by (with_reducible repeat (first | refine blk_drewN ?_ _ | refine blk_drew ?_ | refine blk_alloc ?_ _)); refine blk_put (cs := #[.int .i64 ((rd_T28 (rd_L3 l0_2 x31_2) x40_3).f0), .int .i64 ((rd_T28 (rd_L3 l0_2 x31_2) x40_3).f1), .int .i64 ((rd_T28 (rd_L3 l0_2 x31_2) x40_3).f2), .int .i64 ((rd_T28 (rd_L3 l0_2 x31_2) x40_3).f3), .int .i64 ((rd_T28 (rd_L3 l0_2 x31_2) x40_3).f4), .int .i64 ((rd_T28 (rd_L3 l0_2 x31_2) x40_3).f5), .int .u64 ((rd_T28 (rd_L3 l0_2 x31_2) x40_3).f6), .int .i64 0]) ?_ 7 _ rfl; (with_reducible repeat (first | refine blk_drewN ?_ _ | refine blk_drew ?_ | refine blk_alloc ?_ _)); refine blk_put (cs := #[.int .i64 ((rd_T28 (rd_L3 l0_2 x31_2) x40_3).f0), .int .i64 ((rd_T28 (rd_L3 l0_2 x31_2) x40_3).f1), .int .i64 ((rd_T28 (rd_L3 l0_2 x31_2) x40_3).f2), .int .i64 ((rd_T28 (rd_L3 l0_2 x31_2) x40_3).f3), .int .i64 ((rd_T28 (rd_L3 l0_2 x31_2) x40_3).f4), .int .i64 ((rd_T28 (rd_L3 l0_2 x31_2) x40_3).f5), .int .u64 0, .int .i64 0]) ?_ 6 _ rfl; (with_reducible repeat (first | refine blk_drewN ?_ _ | refine blk_drew ?_ | refine blk_alloc ?_ _)); refine blk_put (cs := #[.int .i64 ((rd_T28 (rd_L3 l0_2 x31_2) x40_3).f0), .int .i64 ((rd_T28 (rd_L3 l0_2 x31_2) x40_3).f1), .int .i64 ((rd_T28 (rd_L3 l0_2 x31_2) x40_3).f2), .int .i64 ((rd_T28 (rd_L3 l0_2 x31_2) x40_3).f3), .int .i64 ((rd_T28 (rd_L3 l0_2 x31_2) x40_3).f4), .int .i64 0, .int .u64 0, .int .i64 0]) ?_ 5 _ rfl; (with_reducible repeat (first | refine blk_drewN ?_ _ | refine blk_drew ?_ | refine blk_alloc ?_ _)); refine blk_put (cs := #[.int .i64 ((rd_T28 (rd_L3 l0_2 x31_2) x40_3).f0), .int .i64 ((rd_T28 (rd_L3 l0_2 x31_2) x40_3).f1), .int .i64 ((rd_T28 (rd_L3 l0_2 x31_2) x40_3).f2), .int .i64 ((rd_T28 (rd_L3 l0_2 x31_2) x40_3).f3), .int .i64 0, .int .i64 0, .int .u64 0, .int .i64 0]) ?_ 4 _ rfl; (with_reducible repeat (first | refine blk_drewN ?_ _ | refine blk_drew ?_ | refine blk_alloc ?_ _)); refine blk_put (cs := #[.int .i64 ((rd_T28 (rd_L3 l0_2 x31_2) x40_3).f0), .int .i64 ((rd_T28 (rd_L3 l0_2 x31_2) x40_3).f1), .int .i64 ((rd_T28 (rd_L3 l0_2 x31_2) x40_3).f2), .int .i64 0, .int .i64 0, .int .i64 0, .int .u64 0, .int .i64 0]) ?_ 3 _ rfl; (with_reducible repeat (first | refine blk_drewN ?_ _ | refine blk_drew ?_ | refine blk_alloc ?_ _)); refine blk_put (cs := #[.int .i64 ((rd_T28 (rd_L3 l0_2 x31_2) x40_3).f0), .int .i64 ((rd_T28 (rd_L3 l0_2 x31_2) x40_3).f1), .int .i64 0, .int .i64 0, .int .i64 0, .int .i64 0, .int .u64 0, .int .i64 0]) ?_ 2 _ rfl; (with_reducible repeat (first | refine blk_drewN ?_ _ | refine blk_drew ?_ | refine blk_alloc ?_ _)); refine blk_put (cs := #[.int .i64 ((rd_T28 (rd_L3 l0_2 x31_2) x40_3).f0), .int .i64 0, .int .i64 0, .int .i64 0, .int .i64 0, .int .i64 0, .int .u64 0, .int .i64 0]) ?_ 1 _ rfl; (with_reducible repeat (first | refine blk_drewN ?_ _ | refine blk_drew ?_ | refine blk_alloc ?_ _)); refine blk_put (cs := #[.int .i64 0, .int .i64 0, .int .i64 0, .int .i64 0, .int .i64 0, .int .i64 0, .int .u64 0, .int .i64 0]) ?_ 0 _ rfl; (with_reducible repeat (first | refine blk_drewN ?_ _ | refine blk_drew ?_ | refine blk_alloc ?_ _)); exact BK164.out) hb); have n2_ := Aside0.mk (below_step (by repeat (first | (with_reducible first | exact HB.out | apply below_alloc | apply pw_below_drewN | apply below_drew1 | refine below_set ?_ GE160.out | refine below_set ?_ GE164.out) | exact HB.out)) hb); clear BK160; clear BK164; clear HB; have BK160 := n0_; have BK164 := n1_; have HB := n2_; clear n0_ n1_ n2_; (try clear hb); (try clear hb2); (try clear hk); (try clear hi)))
                go_ret
                exact ⟨by first | rfl | (simp [errW_none, errW_some] <;> rfl) | (simp [*, errW_none, errW_some] <;> rfl), by repeat (first | (with_reducible first | exact HB.out | apply below_alloc | apply pw_below_drewN | apply below_drew1 | refine below_set ?_ GE160.out | refine below_set ?_ GE164.out) | exact HB.out)⟩
              ·
               rw [if_neg c21] at H
               exact absurd H (by simp)
             ·
              rw [if_neg c20] at H
              exact absurd H (by simp)
            ·
             rw [if_neg c19] at H
             have c19b0 : decide (x40_3 < ((rd_L3 l0_2 x31_2).length : Int)) = false := decide_eq_false c19
             clear c19
             have H' := Aside0.mk H
             clear H
             go_wp2
             go_roundg k3
             case measure => have := HJ1.out; have := HK2.out; have := HK3.out; omega
             case rel => exact ⟨(wrap64 (x31_2 + 1)), (by first | rfl | (simp; done) | (simp [*]; done)), H', ⟨by have := HJ1.out; have := HK2.out; have := HK3.out; omega⟩, ⟨by (with_reducible repeat (first | refine blk_drewN ?_ _ | refine blk_drew ?_ | refine blk_alloc ?_ _)); exact BK160.out⟩, ⟨by repeat (first | (with_reducible first | exact HB.out | apply below_alloc | apply pw_below_drewN | apply below_drew1 | refine below_set ?_ GE160.out) | exact HB.out)⟩⟩
         ·
          replace c17 := Bool.eq_false_iff.mpr c17
          subst c17
          have H1 : (some false) = some r := by rw [if_neg (show ¬ (false = true) by decide)] at H; exact H
          clear H
          have H := H1
          clear H1
          obtain rfl := Option.some.inj H
          have p161 : 0 ≤ (x31_2 : Int) := of_decide_eq_true (by first | (with_reducible assumption) | assumption)
          have q161 : x31_2 < (l0_2.length : Int) := of_decide_eq_true (by first | (with_reducible assumption) | assumption)
          obtain ⟨ad161, A161_0, c161_0, e161, hx161_0, hl161_0, hi161_0⟩ := at_L3 HR0_2.out x31_2 p161 q161
          cases e161
          replace hx161_0 := (HB.out.cell (World.block_lt_of_cell? w _ hx161_0)).trans hx161_0
          have HR161_0 := Aside0.mk hi161_0
          have HC161_0 := Aside0.mk hl161_0
          clear hi161_0 hl161_0
          replace p161 := eq_true p161
          replace q161 := eq_true q161
          go_wp2_with (first | ((with_reducible refine gate_callee (f := 33) rfl ?_); refine goesL_ (some 36) rfl rfl Try.func33 (by kernel_rfl) rfl #[.slice A161_0 (rd_L3 l0_2 x31_2).length c161_0] rfl (by (try simp only [List.map_toArray, List.map_cons, List.map_nil]); first | done | rfl | (simp only [List.length_drop, List.length_take]; rfl)) ?_; (with_reducible refine (code_Good.calls k2 _ _ (rd_L3 l0_2 x31_2) false _ ?side1 ?side2 A16.out).mono ?_); (case side1 => repeat (first | exact (Kd.C_below HR161_0.out HB.out) | (with_reducible refine Kd.C_alloc ?_ _) | (with_reducible refine Kd.C_drewN ?_ _) | (with_reducible refine Kd.C_drew ?_))); (case side2 => exact HC161_0.out); rintro e w44 ⟨rfl, hb⟩; refine ⟨_, rfl, ?_⟩; have n0_ := Aside0.mk (blk_below (g := gb160) (o := .cells #[.int .i64 a0_0, .int .i64 a0_1, .slice (some ad161) l0_2.length c0_2] 36 (0, 0)) (by (with_reducible repeat (first | refine blk_drewN ?_ _ | refine blk_drew ?_ | refine blk_alloc ?_ _)); exact BK160.out) hb); have n1_ := Aside0.mk (below_step (by repeat (first | (with_reducible first | exact HB.out | apply below_alloc | apply pw_below_drewN | apply below_drew1 | refine below_set ?_ GE160.out) | exact HB.out)) hb); clear BK160; clear HB; have BK160 := n0_; have HB := n1_; clear n0_ n1_; (try clear hb); (try clear hb2); (try clear hk); (try clear hi)))
          go_ret
          exact ⟨by first | rfl | (simp [errW_none, errW_some] <;> rfl) | (simp [*, errW_none, errW_some] <;> rfl), by repeat (first | (with_reducible first | exact HB.out | apply below_alloc | apply pw_below_drewN | apply below_drew1 | refine below_set ?_ GE160.out) | exact HB.out)⟩
        ·
         rw [if_neg c15] at H
         exact absurd H (by simp)
       ·
        rw [if_neg c14] at H
        exact absurd H (by simp)
      ·
       rw [if_neg c13] at H
       have c13b0 : decide (x31_2 < (l0_2.length : Int)) = false := decide_eq_false c13
       clear c13
       obtain rfl := Option.some.inj H
       go_wp2
       go_ret
       exact ⟨by first | rfl | (simp [errW_none, errW_some] <;> rfl) | (simp [*, errW_none, errW_some] <;> rfl), by repeat (first | (with_reducible first | exact HB.out | apply below_alloc | apply pw_below_drewN | apply below_drew1 | refine below_set ?_ GE160.out) | exact HB.out)⟩

-- NOT PRINTED: function 11 (tso_Of)

-- NOT PRINTED: function 29 (tso_Machine_get)

-- NOT PRINTED: function 44 (atomic_AddInt64)

-- NOT PRINTED: function 30 (atomic_Int64_Add)

/-! ### word_truth: function 54 -/
def word_truth.f (a0 : Bool) : Option (Int) := if a0 = true then (some 1) else (some 0)
set_option maxHeartbeats 8000000 in
set_option maxRecDepth 100000 in
theorem word_truth.calls (a0 : Bool) (r : Int) (w : World) (h : word_truth.f a0 = some r) :
  Calls Try.prog 54 #[.bool a0] w fun e w' => e = .returned (.int .u64 r) ∧ Drawn0 w w' := by
 have H : (if a0 = true then (some 1) else (some 0)) = some r := h
 clear h
 by_cases c2 : a0 = true
 ·
  subst c2
  have H1 : (some 1) = some r := by rw [if_pos rfl] at H; exact H
  clear H
  have H := H1
  clear H1
  obtain rfl := Option.some.inj H
  go_enter Try.func54, Try.ntmps54
  go_wp2
  go_ret
  exact ⟨by first | rfl | (simp; done) | (simp [*]; done), by repeat (first | exact Drawn0.refl _ | apply Drawn0.step)⟩
 ·
  replace c2 := Bool.eq_false_iff.mpr c2
  subst c2
  have H1 : (some 0) = some r := by rw [if_neg (show ¬ (false = true) by decide)] at H; exact H
  clear H
  have H := H1
  clear H1
  obtain rfl := Option.some.inj H
  go_enter Try.func54, Try.ntmps54
  go_wp2
  go_ret
  exact ⟨by first | rfl | (simp; done) | (simp [*]; done), by repeat (first | exact Drawn0.refl _ | apply Drawn0.step)⟩

/-! ### word_Apply: function 38 -/
def word_Apply.f (a0 : Int) (a1 : Int) (a2 : Int) : Option (Int) := if a0 = 0 then (some (IntKind.u64.wrap (a1 + a2))) else (if a0 = 1 then (some (IntKind.u64.wrap (a1 - a2))) else (if a0 = 2 then (some (IntKind.u64.wrap (a1 * a2))) else (if a0 = 3 then (some (Go.bits .and .u64 a1 a2)) else (if a0 = 4 then (some (Go.bits .or .u64 a1 a2)) else (if a0 = 5 then (some (Go.bits .xor .u64 a1 a2)) else (if a0 = 6 then (if 0 ≤ (Int.tmod a2 64) then (some (shl .u64 a1 (Int.tmod a2 64))) else (none)) else (if a0 = 7 then (if 0 ≤ (Int.tmod a2 64) then (some (shr .u64 a1 (Int.tmod a2 64))) else (none)) else (if a0 = 8 then ((word_truth.f (a1 == a2)).bind fun t167 => (some t167)) else (if a0 = 9 then ((word_truth.f (decide (a1 < a2))).bind fun t168 => (some t168)) else (some 0))))))))))
set_option maxHeartbeats 8000000 in
set_option maxRecDepth 100000 in
theorem word_Apply.calls (a0 : Int) (a1 : Int) (a2 : Int) (r : Int) (w : World) (h : word_Apply.f a0 a1 a2 = some r) :
  Calls Try.prog 38 #[.int .i64 a0, .int .u64 a1, .int .u64 a2] w fun e w' => e = .returned (.int .u64 r) ∧ Drawn0 w w' := by
 have H : (if a0 = 0 then (some (IntKind.u64.wrap (a1 + a2))) else (if a0 = 1 then (some (IntKind.u64.wrap (a1 - a2))) else (if a0 = 2 then (some (IntKind.u64.wrap (a1 * a2))) else (if a0 = 3 then (some (Go.bits .and .u64 a1 a2)) else (if a0 = 4 then (some (Go.bits .or .u64 a1 a2)) else (if a0 = 5 then (some (Go.bits .xor .u64 a1 a2)) else (if a0 = 6 then (if 0 ≤ (Int.tmod a2 64) then (some (shl .u64 a1 (Int.tmod a2 64))) else (none)) else (if a0 = 7 then (if 0 ≤ (Int.tmod a2 64) then (some (shr .u64 a1 (Int.tmod a2 64))) else (none)) else (if a0 = 8 then ((word_truth.f (a1 == a2)).bind fun t167 => (some t167)) else (if a0 = 9 then ((word_truth.f (decide (a1 < a2))).bind fun t168 => (some t168)) else (some 0))))))))))) = some r := h
 clear h
 by_cases hor2_ : a0 = 0 ∨ a0 = 1 ∨ a0 = 2 ∨ a0 = 3 ∨ a0 = 4 ∨ a0 = 5
 ·
  rcases hor2_ with hor2_ | hor2_ | hor2_ | hor2_ | hor2_ | hor2_
  rw [if_pos hor2_] at H
  have hor2__0 : (a0 == 0) = true := by rw [hor2_]; rfl
  have hor2__0n : (a0 != 0) = false := by rw [hor2_]; rfl
  clear hor2_
  rotate_left
  rw [if_neg (show ¬ a0 = 0 by rw [hor2_]; decide), if_pos hor2_] at H
  have hor2__0 : (a0 == 0) = false := by rw [hor2_]; rfl
  have hor2__0n : (a0 != 0) = true := by rw [hor2_]; rfl
  have hor2__1 : (a0 == 1) = true := by rw [hor2_]; rfl
  have hor2__1n : (a0 != 1) = false := by rw [hor2_]; rfl
  clear hor2_
  rotate_left
  rw [if_neg (show ¬ a0 = 0 by rw [hor2_]; decide), if_neg (show ¬ a0 = 1 by rw [hor2_]; decide), if_pos hor2_] at H
  have hor2__0 : (a0 == 0) = false := by rw [hor2_]; rfl
  have hor2__0n : (a0 != 0) = true := by rw [hor2_]; rfl
  have hor2__1 : (a0 == 1) = false := by rw [hor2_]; rfl
  have hor2__1n : (a0 != 1) = true := by rw [hor2_]; rfl
  have hor2__2 : (a0 == 2) = true := by rw [hor2_]; rfl
  have hor2__2n : (a0 != 2) = false := by rw [hor2_]; rfl
  clear hor2_
  rotate_left
  rw [if_neg (show ¬ a0 = 0 by rw [hor2_]; decide), if_neg (show ¬ a0 = 1 by rw [hor2_]; decide), if_neg (show ¬ a0 = 2 by rw [hor2_]; decide), if_pos hor2_] at H
  have hor2__0 : (a0 == 0) = false := by rw [hor2_]; rfl
  have hor2__0n : (a0 != 0) = true := by rw [hor2_]; rfl
  have hor2__1 : (a0 == 1) = false := by rw [hor2_]; rfl
  have hor2__1n : (a0 != 1) = true := by rw [hor2_]; rfl
  have hor2__2 : (a0 == 2) = false := by rw [hor2_]; rfl
  have hor2__2n : (a0 != 2) = true := by rw [hor2_]; rfl
  have hor2__3 : (a0 == 3) = true := by rw [hor2_]; rfl
  have hor2__3n : (a0 != 3) = false := by rw [hor2_]; rfl
  clear hor2_
  rotate_left
  rw [if_neg (show ¬ a0 = 0 by rw [hor2_]; decide), if_neg (show ¬ a0 = 1 by rw [hor2_]; decide), if_neg (show ¬ a0 = 2 by rw [hor2_]; decide), if_neg (show ¬ a0 = 3 by rw [hor2_]; decide), if_pos hor2_] at H
  have hor2__0 : (a0 == 0) = false := by rw [hor2_]; rfl
  have hor2__0n : (a0 != 0) = true := by rw [hor2_]; rfl
  have hor2__1 : (a0 == 1) = false := by rw [hor2_]; rfl
  have hor2__1n : (a0 != 1) = true := by rw [hor2_]; rfl
  have hor2__2 : (a0 == 2) = false := by rw [hor2_]; rfl
  have hor2__2n : (a0 != 2) = true := by rw [hor2_]; rfl
  have hor2__3 : (a0 == 3) = false := by rw [hor2_]; rfl
  have hor2__3n : (a0 != 3) = true := by rw [hor2_]; rfl
  have hor2__4 : (a0 == 4) = true := by rw [hor2_]; rfl
  have hor2__4n : (a0 != 4) = false := by rw [hor2_]; rfl
  clear hor2_
  rotate_left
  rw [if_neg (show ¬ a0 = 0 by rw [hor2_]; decide), if_neg (show ¬ a0 = 1 by rw [hor2_]; decide), if_neg (show ¬ a0 = 2 by rw [hor2_]; decide), if_neg (show ¬ a0 = 3 by rw [hor2_]; decide), if_neg (show ¬ a0 = 4 by rw [hor2_]; decide), if_pos hor2_] at H
  have hor2__0 : (a0 == 0) = false := by rw [hor2_]; rfl
  have hor2__0n : (a0 != 0) = true := by rw [hor2_]; rfl
  have hor2__1 : (a0 == 1) = false := by rw [hor2_]; rfl
  have hor2__1n : (a0 != 1) = true := by rw [hor2_]; rfl
  have hor2__2 : (a0 == 2) = false := by rw [hor2_]; rfl
  have hor2__2n : (a0 != 2) = true := by rw [hor2_]; rfl
  have hor2__3 : (a0 == 3) = false := by rw [hor2_]; rfl
  have hor2__3n : (a0 != 3) = true := by rw [hor2_]; rfl
  have hor2__4 : (a0 == 4) = false := by rw [hor2_]; rfl
  have hor2__4n : (a0 != 4) = true := by rw [hor2_]; rfl
  have hor2__5 : (a0 == 5) = true := by rw [hor2_]; rfl
  have hor2__5n : (a0 != 5) = false := by rw [hor2_]; rfl
  clear hor2_
  rotate_left
  all_goals
   obtain rfl := Option.some.inj H
   go_enter Try.func38, Try.ntmps38
   go_wp2
   go_ret
   exact ⟨by first | rfl | (simp; done) | (simp [*]; done), by repeat (first | exact Drawn0.refl _ | apply Drawn0.step)⟩
 ·
  have c4 : ¬ a0 = 0 := fun h_ => hor2_ (Or.inl h_)
  have c5 : ¬ a0 = 1 := fun h_ => hor2_ (Or.inr (Or.inl h_))
  have c6 : ¬ a0 = 2 := fun h_ => hor2_ (Or.inr (Or.inr (Or.inl h_)))
  have c7 : ¬ a0 = 3 := fun h_ => hor2_ (Or.inr (Or.inr (Or.inr (Or.inl h_))))
  have c8 : ¬ a0 = 4 := fun h_ => hor2_ (Or.inr (Or.inr (Or.inr (Or.inr (Or.inl h_)))))
  have c9 : ¬ a0 = 5 := fun h_ => hor2_ (Or.inr (Or.inr (Or.inr (Or.inr (Or.inr (h_))))))
  rw [if_neg c4] at H
  have c4b0 : (a0 == 0) = false := beq_eq_false_iff_ne.mpr c4
  have c4b1 : (a0 != 0) = true := bne_iff_ne.mpr c4
  rw [if_neg c5] at H
  have c5b0 : (a0 == 1) = false := beq_eq_false_iff_ne.mpr c5
  have c5b1 : (a0 != 1) = true := bne_iff_ne.mpr c5
  rw [if_neg c6] at H
  have c6b0 : (a0 == 2) = false := beq_eq_false_iff_ne.mpr c6
  have c6b1 : (a0 != 2) = true := bne_iff_ne.mpr c6
  rw [if_neg c7] at H
  have c7b0 : (a0 == 3) = false := beq_eq_false_iff_ne.mpr c7
  have c7b1 : (a0 != 3) = true := bne_iff_ne.mpr c7
  rw [if_neg c8] at H
  have c8b0 : (a0 == 4) = false := beq_eq_false_iff_ne.mpr c8
  have c8b1 : (a0 != 4) = true := bne_iff_ne.mpr c8
  rw [if_neg c9] at H
  have c9b0 : (a0 == 5) = false := beq_eq_false_iff_ne.mpr c9
  have c9b1 : (a0 != 5) = true := bne_iff_ne.mpr c9
  by_cases c10 : a0 = 6
  ·
   rw [if_pos c10] at H
   have c10b0 : (a0 == 6) = true := beq_iff_eq.mpr c10
   have c10b1 : (a0 != 6) = false := bne_eq_false_iff_eq.mpr c10
   clear c10
   obtain ⟨ji11, hji11⟩ : ∃ j_ : Int, (Int.tmod a2 64) = j_ := ⟨_, rfl⟩
   replace H : (if 0 ≤ (ji11) then (some (shl .u64 a1 (ji11))) else (none)) = some r := by first | (rw [hji11] at H; exact H) | (simp only [hji11] at H ⊢; exact H)
   by_cases c12 : 0 ≤ (ji11)
   ·
    rw [if_pos c12] at H
    have c12b0 := eq_true c12
    have c12b1 : decide (0 ≤ (ji11)) = true := decide_eq_true c12
    clear c12
    obtain ⟨ji13, hji13⟩ : ∃ j_ : Int, (shl .u64 a1 (ji11)) = j_ := ⟨_, rfl⟩
    replace H : (some ji13) = some r := by first | (rw [hji13] at H; exact H) | (simp only [hji13] at H ⊢; exact H)
    have hji13_ : (IntKind.u64.wrap (a1 * 2 ^ min (ji11).toNat 64)) = ji13 := hji13
    have hji13z : (ji11) ≤ 64 → (IntKind.u64.wrap (a1 * 2 ^ (ji11).toNat)) = ji13 := shl_small hji13
    obtain rfl := Option.some.inj H
    go_enter Try.func38, Try.ntmps38
    go_wp2
    go_ret
    exact ⟨by first | rfl | (simp; done) | (simp only [← hji11, ← hji13] <;> (first | rfl | simp)) | (simp [*]; done), by repeat (first | exact Drawn0.refl _ | apply Drawn0.step)⟩
   ·
    rw [if_neg c12] at H
    exact absurd H (by simp)
  ·
   rw [if_neg c10] at H
   have c10b0 : (a0 == 6) = false := beq_eq_false_iff_ne.mpr c10
   have c10b1 : (a0 != 6) = true := bne_iff_ne.mpr c10
   by_cases c14 : a0 = 7
   ·
    rw [if_pos c14] at H
    have c14b0 : (a0 == 7) = true := beq_iff_eq.mpr c14
    have c14b1 : (a0 != 7) = false := bne_eq_false_iff_eq.mpr c14
    clear c14
    obtain ⟨ji15, hji15⟩ : ∃ j_ : Int, (Int.tmod a2 64) = j_ := ⟨_, rfl⟩
    replace H : (if 0 ≤ (ji15) then (some (shr .u64 a1 (ji15))) else (none)) = some r := by first | (rw [hji15] at H; exact H) | (simp only [hji15] at H ⊢; exact H)
    by_cases c16 : 0 ≤ (ji15)
    ·
     rw [if_pos c16] at H
     have c16b0 := eq_true c16
     have c16b1 : decide (0 ≤ (ji15)) = true := decide_eq_true c16
     clear c16
     obtain ⟨ji17, hji17⟩ : ∃ j_ : Int, (shr .u64 a1 (ji15)) = j_ := ⟨_, rfl⟩
     replace H : (some ji17) = some r := by first | (rw [hji17] at H; exact H) | (simp only [hji17] at H ⊢; exact H)
     have hji17_ : (a1 / 2 ^ min (ji15).toNat 64) = ji17 := hji17
     have hji17z : (ji15) ≤ 64 → (a1 / 2 ^ (ji15).toNat) = ji17 := shr_small hji17
     obtain rfl := Option.some.inj H
     go_enter Try.func38, Try.ntmps38
     go_wp2
     go_ret
     exact ⟨by first | rfl | (simp; done) | (simp only [← hji15, ← hji17] <;> (first | rfl | simp)) | (simp [*]; done), by repeat (first | exact Drawn0.refl _ | apply Drawn0.step)⟩
    ·
     rw [if_neg c16] at H
     exact absurd H (by simp)
   ·
    rw [if_neg c14] at H
    have c14b0 : (a0 == 7) = false := beq_eq_false_iff_ne.mpr c14
    have c14b1 : (a0 != 7) = true := bne_iff_ne.mpr c14
    by_cases c18 : a0 = 8
    ·
     rw [if_pos c18] at H
     have c18b0 : (a0 == 8) = true := beq_iff_eq.mpr c18
     have c18b1 : (a0 != 8) = false := bne_eq_false_iff_eq.mpr c18
     clear c18
     replace H := Option.bind_eq_some_iff.mp H
     obtain ⟨t167, A190, H⟩ := H
     replace H : (some t167) = some r := H
     have A19 := Aside0.mk A190
     clear A190
     obtain rfl := Option.some.inj H
     go_enter Try.func38, Try.ntmps38
     go_wp2_with (first | ((with_reducible refine gate_callee (f := 54) rfl ?_); refine goesL_ (some 55) rfl rfl Try.func54 (by kernel_rfl) rfl #[.bool (a1 == a2)] rfl (by (try simp only [List.map_toArray, List.map_cons, List.map_nil]); first | done | rfl | (simp only [List.length_drop, List.length_take]; rfl)) ?_; (with_reducible refine (word_truth.calls (a1 == a2) t167 _ A19.out).mono ?_); rintro e w' ⟨rfl, ⟨nd, rfl⟩⟩; refine ⟨_, rfl, ?_⟩))
     go_ret
     exact ⟨by first | rfl | (simp; done) | (simp [*]; done), by repeat (first | exact Drawn0.refl _ | apply Drawn0.step)⟩
    ·
     rw [if_neg c18] at H
     have c18b0 : (a0 == 8) = false := beq_eq_false_iff_ne.mpr c18
     have c18b1 : (a0 != 8) = true := bne_iff_ne.mpr c18
     by_cases c20 : a0 = 9
     ·
      rw [if_pos c20] at H
      have c20b0 : (a0 == 9) = true := beq_iff_eq.mpr c20
      have c20b1 : (a0 != 9) = false := bne_eq_false_iff_eq.mpr c20
      clear c20
      replace H := Option.bind_eq_some_iff.mp H
      obtain ⟨t168, A210, H⟩ := H
      replace H : (some t168) = some r := H
      have A21 := Aside0.mk A210
      clear A210
      obtain rfl := Option.some.inj H
      go_enter Try.func38, Try.ntmps38
      go_wp2_with (first | ((with_reducible refine gate_callee (f := 54) rfl ?_); refine goesL_ (some 61) rfl rfl Try.func54 (by kernel_rfl) rfl #[.bool (decide (a1 < a2))] rfl (by (try simp only [List.map_toArray, List.map_cons, List.map_nil]); first | done | rfl | (simp only [List.length_drop, List.length_take]; rfl)) ?_; (with_reducible refine (word_truth.calls (decide (a1 < a2)) t168 _ A21.out).mono ?_); rintro e w' ⟨rfl, ⟨nd, rfl⟩⟩; refine ⟨_, rfl, ?_⟩))
      go_ret
      exact ⟨by first | rfl | (simp; done) | (simp [*]; done), by repeat (first | exact Drawn0.refl _ | apply Drawn0.step)⟩
     ·
      rw [if_neg c20] at H
      have c20b0 : (a0 == 9) = false := beq_eq_false_iff_ne.mpr c20
      have c20b1 : (a0 != 9) = true := bne_iff_ne.mpr c20
      obtain rfl := Option.some.inj H
      go_enter Try.func38, Try.ntmps38
      go_wp2
      go_ret
      exact ⟨by first | rfl | (simp; done) | (simp [*]; done), by repeat (first | exact Drawn0.refl _ | apply Drawn0.step)⟩

/-! ### word_Pick: function 39 -/
def word_Pick.f (a0 : Int) (a1 : Int) (a2 : Int) : Option (Int) := (word_truth.f (a0 != 0)).bind fun t169 => (some (Go.bits .or .u64 (Go.bits .and .u64 a1 (IntKind.u64.wrap (-t169))) (Go.bits .andNot .u64 a2 (IntKind.u64.wrap (-t169)))))
set_option maxHeartbeats 8000000 in
set_option maxRecDepth 100000 in
theorem word_Pick.calls (a0 : Int) (a1 : Int) (a2 : Int) (r : Int) (w : World) (h : word_Pick.f a0 a1 a2 = some r) :
  Calls Try.prog 39 #[.int .u64 a0, .int .u64 a1, .int .u64 a2] w fun e w' => e = .returned (.int .u64 r) ∧ Drawn0 w w' := by
 have H : ((word_truth.f (a0 != 0)).bind fun t169 => (some (Go.bits .or .u64 (Go.bits .and .u64 a1 (IntKind.u64.wrap (-t169))) (Go.bits .andNot .u64 a2 (IntKind.u64.wrap (-t169)))))) = some r := h
 clear h
 replace H := Option.bind_eq_some_iff.mp H
 obtain ⟨t169, A40, H⟩ := H
 replace H : (some (Go.bits .or .u64 (Go.bits .and .u64 a1 (IntKind.u64.wrap (-t169))) (Go.bits .andNot .u64 a2 (IntKind.u64.wrap (-t169))))) = some r := H
 have A4 := Aside0.mk A40
 clear A40
 obtain rfl := Option.some.inj H
 go_enter Try.func39, Try.ntmps39
 go_wp2_with (first | ((with_reducible refine gate_callee (f := 54) rfl ?_); refine goesL_ (some 10) rfl rfl Try.func54 (by kernel_rfl) rfl #[.bool (a0 != 0)] rfl (by (try simp only [List.map_toArray, List.map_cons, List.map_nil]); first | done | rfl | (simp only [List.length_drop, List.length_take]; rfl)) ?_; (with_reducible refine (word_truth.calls (a0 != 0) t169 _ A4.out).mono ?_); rintro e w' ⟨rfl, ⟨nd, rfl⟩⟩; refine ⟨_, rfl, ?_⟩))
 go_ret
 exact ⟨by first | rfl | (simp; done) | (simp [*]; done), by repeat (first | exact Drawn0.refl _ | apply Drawn0.step)⟩

-- NOT PRINTED: function 46 (tso_thread_reg)

-- NOT PRINTED: function 47 (tso_Machine_cell)

end Go.Proofs.Ytaenjbhhpdmhgaa.PTsoScript
