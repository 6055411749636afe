/-
For ImageBytes: what the Go functions that it reaches compute, as plain Lean functions, and the walks that show it; conditions as each theorem states them. (Written by a program of this session on the kit's print.)
-/
-- PRINTED by print.py (a twelfth state) out of the translation. Not trusted: Lean checks it.
import Derived.Test.YteajbeajkplplaaPImageBytesx0
import Derived.Test.YteajbeajkplplaaPImageBytesx3
import Derived.Test.YteajbeajkplplaaPImageBytesx5
namespace Go.Proofs.Yteajbeajkplplaa.PImageBytes
open Go.RowKit Go.Proofs.YteajbeajkplplaaW.PrintWords Go.Proofs.YteajbeajkplplaaW.PrintLast Go.Proofs.YteajbeajkplplaaW.PrintMore
attribute [local go_sem] max2_int min2_int max_two min_two max_three min_three max_four min_four   -- for this text's walks alone
set_option linter.unusedVariables false
set_option linter.unusedSimpArgs false

/-! ### tautochronelaw21_may: function 11 -/
mutual
def tautochronelaw21_may.j0 : Nat → Bool → Int → Int → List (List (S46)) → Option (Bool)
  | 0, _, _, _, _ => none
  | k + 1, x28, x315000, x315001, x315002 => if x28 = true then (some false) else (tautochronelaw21_may.l0 k x315002 (x315002.length : Int) 0 x315000 x315001 x315002)
def tautochronelaw21_may.l0 : Nat → List (List (S46)) → Int → Int → Int → Int → List (List (S46)) → Option (Bool)
  | 0, _, _, _, _, _, _ => none
  | k + 1, x30, x31, x32, x315000, x315001, x315002 => if x32 < x31 then (if 0 ≤ x32 then (if x32 < (x30.length : Int) then ((code_Good.f k (rd_L3 x30 x32)).bind fun t316 => (if t316 = true then (tautochronelaw21_may.l1 k x30 x31 x32 (rd_L3 x30 x32) ((rd_L3 x30 x32).length : Int) 0 x315000 x315001 x315002) else (some false))) else (none)) else (none)) else (some true)
def tautochronelaw21_may.l1 : Nat → List (List (S46)) → Int → Int → List (S46) → Int → Int → Int → Int → List (List (S46)) → Option (Bool)
  | 0, _, _, _, _, _, _, _, _, _ => none
  | k + 1, x30, x31, x32, x39, x40, x41, x315000, x315001, x315002 => if x41 < x40 then (if 0 ≤ x41 then (if x41 < (x39.length : Int) then (if ((rd_T46 x39 x41).f0) = 4 then ((encode_May.f k ((rd_T46 x39 x41).f0) ((rd_T46 x39 x41).f1) ((rd_T46 x39 x41).f2) ((rd_T46 x39 x41).f3) ((rd_T46 x39 x41).f4) ((rd_T46 x39 x41).f5) ((rd_T46 x39 x41).f6) ((rd_T46 x39 x41).f7)).bind fun t319 => (if t319 = true then (if ((rd_T46 x39 x41).f6) ≥ (IntKind.u64.wrap (x315001)) then (some false) else (tautochronelaw21_may.l1 k x30 x31 x32 x39 x40 (wrap64 (x41 + 1)) x315000 x315001 x315002)) else (some false))) else (if ((rd_T46 x39 x41).f0) = 5 then ((encode_May.f k ((rd_T46 x39 x41).f0) ((rd_T46 x39 x41).f1) ((rd_T46 x39 x41).f2) ((rd_T46 x39 x41).f3) ((rd_T46 x39 x41).f4) ((rd_T46 x39 x41).f5) ((rd_T46 x39 x41).f6) ((rd_T46 x39 x41).f7)).bind fun t320 => (if t320 = true then (if ((rd_T46 x39 x41).f6) ≥ (IntKind.u64.wrap (x315001)) then (some false) else (tautochronelaw21_may.l1 k x30 x31 x32 x39 x40 (wrap64 (x41 + 1)) x315000 x315001 x315002)) else (some false))) else (if ((rd_T46 x39 x41).f0) = 8 then ((encode_May.f k ((rd_T46 x39 x41).f0) ((rd_T46 x39 x41).f1) ((rd_T46 x39 x41).f2) ((rd_T46 x39 x41).f3) ((rd_T46 x39 x41).f4) ((rd_T46 x39 x41).f5) ((rd_T46 x39 x41).f6) ((rd_T46 x39 x41).f7)).bind fun t321 => (if t321 = true then (if ((rd_T46 x39 x41).f6) ≥ (IntKind.u64.wrap (x315001)) then (some false) else (tautochronelaw21_may.l1 k x30 x31 x32 x39 x40 (wrap64 (x41 + 1)) x315000 x315001 x315002)) else (some false))) else (if ((rd_T46 x39 x41).f0) = 9 then ((encode_May.f k ((rd_T46 x39 x41).f0) ((rd_T46 x39 x41).f1) ((rd_T46 x39 x41).f2) ((rd_T46 x39 x41).f3) ((rd_T46 x39 x41).f4) ((rd_T46 x39 x41).f5) ((rd_T46 x39 x41).f6) ((rd_T46 x39 x41).f7)).bind fun t322 => (if t322 = true then (if ((rd_T46 x39 x41).f6) ≥ (IntKind.u64.wrap (x315001)) then (some false) else (tautochronelaw21_may.l1 k x30 x31 x32 x39 x40 (wrap64 (x41 + 1)) x315000 x315001 x315002)) else (some false))) else ((encode_May.f k ((rd_T46 x39 x41).f0) ((rd_T46 x39 x41).f1) ((rd_T46 x39 x41).f2) ((rd_T46 x39 x41).f3) ((rd_T46 x39 x41).f4) ((rd_T46 x39 x41).f5) ((rd_T46 x39 x41).f6) ((rd_T46 x39 x41).f7)).bind fun t323 => (if t323 = true then (if ((rd_T46 x39 x41).f0) = 10 then (if ((rd_T46 x39 x41).f6) ≥ (IntKind.u64.wrap (x315001)) then (some false) else (tautochronelaw21_may.l1 k x30 x31 x32 x39 x40 (wrap64 (x41 + 1)) x315000 x315001 x315002)) else (tautochronelaw21_may.l1 k x30 x31 x32 x39 x40 (wrap64 (x41 + 1)) x315000 x315001 x315002)) else (some false))))))) else (none)) else (none)) else (tautochronelaw21_may.l0 k x30 x31 (wrap64 (x32 + 1)) x315000 x315001 x315002)
end
def tautochronelaw21_may.f (k : Nat) (a0_0 : Int) (a0_1 : Int) (l0_2 : List (List (S46))) : Option (Bool) := if a0_0 < 0 then (tautochronelaw21_may.j0 k true a0_0 a0_1 l0_2) else (if a0_0 > a0_1 then (tautochronelaw21_may.j0 k true a0_0 a0_1 l0_2) else (if a0_1 > 1048576 then (tautochronelaw21_may.j0 k true a0_0 a0_1 l0_2) else (tautochronelaw21_may.j0 k (decide ((l0_2.length : Int) > 16)) a0_0 a0_1 l0_2)))
theorem tautochronelaw21_may.mono_l : ∀ k, (∀ y0 y1 y2 y3, LeO (tautochronelaw21_may.j0 k y0 y1 y2 y3) (tautochronelaw21_may.j0 (k + 1) y0 y1 y2 y3)) ∧ (∀ y0 y1 y2 y3 y4 y5, LeO (tautochronelaw21_may.l0 k y0 y1 y2 y3 y4 y5) (tautochronelaw21_may.l0 (k + 1) y0 y1 y2 y3 y4 y5)) ∧ (∀ y0 y1 y2 y3 y4 y5 y6 y7 y8, LeO (tautochronelaw21_may.l1 k y0 y1 y2 y3 y4 y5 y6 y7 y8) (tautochronelaw21_may.l1 (k + 1) y0 y1 y2 y3 y4 y5 y6 y7 y8))
  | 0 => ⟨fun _ _ _ _ r h => by simp [tautochronelaw21_may.j0] at h, fun _ _ _ _ _ _ r h => by simp [tautochronelaw21_may.l0] at h, fun _ _ _ _ _ _ _ _ _ r h => by simp [tautochronelaw21_may.l1] at h⟩
  | k + 1 => by
    obtain ⟨ih0, ih1, ih2⟩ := tautochronelaw21_may.mono_l k
    refine ⟨?_, ?_, ?_⟩
    · intro y0 y1 y2 y3
      unfold tautochronelaw21_may.j0
      repeat' first
      | (with_reducible exact ih0 _ _ _ _)
      | (with_reducible exact ih1 _ _ _ _ _ _)
      | (with_reducible exact ih2 _ _ _ _ _ _ _ _ _)
      | (with_reducible exact code_Good.mono _ _)
      | (with_reducible exact encode_May.mono _ _ _ _ _ _ _ _ _)
      | (with_reducible exact LeO.refl _)
      | (with_reducible exact LeO.none _)
      | (with_reducible refine LeO.ite ?_ ?_)
      | (with_reducible refine LeO.bind ?_ (fun _ => ?_))
      | exact ih0 _ _ _ _
      | exact ih1 _ _ _ _ _ _
      | exact ih2 _ _ _ _ _ _ _ _ _
      | exact code_Good.mono _ _
      | exact encode_May.mono _ _ _ _ _ _ _ _ _
      | exact LeO.none _
      | refine LeO.ite ?_ ?_
      | refine LeO.bind ?_ (fun _ => ?_)
    · intro y0 y1 y2 y3 y4 y5
      unfold tautochronelaw21_may.l0
      repeat' first
      | (with_reducible exact ih0 _ _ _ _)
      | (with_reducible exact ih1 _ _ _ _ _ _)
      | (with_reducible exact ih2 _ _ _ _ _ _ _ _ _)
      | (with_reducible exact code_Good.mono _ _)
      | (with_reducible exact encode_May.mono _ _ _ _ _ _ _ _ _)
      | (with_reducible exact LeO.refl _)
      | (with_reducible exact LeO.none _)
      | (with_reducible refine LeO.ite ?_ ?_)
      | (with_reducible refine LeO.bind ?_ (fun _ => ?_))
      | exact ih0 _ _ _ _
      | exact ih1 _ _ _ _ _ _
      | exact ih2 _ _ _ _ _ _ _ _ _
      | exact code_Good.mono _ _
      | exact encode_May.mono _ _ _ _ _ _ _ _ _
      | exact LeO.none _
      | refine LeO.ite ?_ ?_
      | refine LeO.bind ?_ (fun _ => ?_)
    · intro y0 y1 y2 y3 y4 y5 y6 y7 y8
      unfold tautochronelaw21_may.l1
      repeat' first
      | (with_reducible exact ih0 _ _ _ _)
      | (with_reducible exact ih1 _ _ _ _ _ _)
      | (with_reducible exact ih2 _ _ _ _ _ _ _ _ _)
      | (with_reducible exact code_Good.mono _ _)
      | (with_reducible exact encode_May.mono _ _ _ _ _ _ _ _ _)
      | (with_reducible exact LeO.refl _)
      | (with_reducible exact LeO.none _)
      | (with_reducible refine LeO.ite ?_ ?_)
      | (with_reducible refine LeO.bind ?_ (fun _ => ?_))
      | exact ih0 _ _ _ _
      | exact ih1 _ _ _ _ _ _
      | exact ih2 _ _ _ _ _ _ _ _ _
      | exact code_Good.mono _ _
      | exact encode_May.mono _ _ _ _ _ _ _ _ _
      | exact LeO.none _
      | refine LeO.ite ?_ ?_
      | refine LeO.bind ?_ (fun _ => ?_)
theorem tautochronelaw21_may.mono : ∀ a0 a1 a2 k, LeO (tautochronelaw21_may.f k a0 a1 a2) (tautochronelaw21_may.f (k + 1) a0 a1 a2) := by
  intro a0 a1 a2 k
  obtain ⟨ih0, ih1, ih2⟩ := tautochronelaw21_may.mono_l k
  unfold tautochronelaw21_may.f
  repeat' first
      | (with_reducible exact ih0 _ _ _ _)
      | (with_reducible exact ih1 _ _ _ _ _ _)
      | (with_reducible exact ih2 _ _ _ _ _ _ _ _ _)
      | (with_reducible exact code_Good.mono _ _)
      | (with_reducible exact encode_May.mono _ _ _ _ _ _ _ _ _)
      | (with_reducible exact LeO.refl _)
      | (with_reducible exact LeO.none _)
      | (with_reducible refine LeO.ite ?_ ?_)
      | (with_reducible refine LeO.bind ?_ (fun _ => ?_))
      | exact ih0 _ _ _ _
      | exact ih1 _ _ _ _ _ _
      | exact ih2 _ _ _ _ _ _ _ _ _
      | exact code_Good.mono _ _
      | exact encode_May.mono _ _ _ _ _ _ _ _ _
      | exact LeO.none _
      | refine LeO.ite ?_ ?_
      | refine LeO.bind ?_ (fun _ => ?_)
set_option maxHeartbeats 8000000 in
set_option maxRecDepth 100000 in
theorem tautochronelaw21_may.calls (k : Nat) (a0_0 : Int) (a0_1 : Int) (A0_2 : Option Addr) (c0_2 : Nat) (l0_2 : List (List (S46))) (r : Bool) (w : World) (hr0_2 : Kd.C (Kd.slice 46 k46) w A0_2 l0_2.length l0_2) (hc0_2 : l0_2.length ≤ c0_2) (h : tautochronelaw21_may.f k a0_0 a0_1 l0_2 = some r) :
    Calls Try.prog 11 #[.agg #[.int .i64 a0_0, .int .i64 a0_1, .slice A0_2 l0_2.length c0_2]] w fun e w' => e = .returned (.bool r) ∧ Below w.heap.size w w' := by
  have hu25 := Try.underlying25
  have hu46 := Try.underlying46
  have HR0_2 := Aside0.mk hr0_2
  have HC0_2 := Aside0.mk hc0_2
  clear hr0_2 hc0_2
  have HB := Aside0.mk (Below.refl w.heap.size w)
  have H : (if a0_0 < 0 then (tautochronelaw21_may.j0 k true a0_0 a0_1 l0_2) else (if a0_0 > a0_1 then (tautochronelaw21_may.j0 k true a0_0 a0_1 l0_2) else (if a0_1 > 1048576 then (tautochronelaw21_may.j0 k true a0_0 a0_1 l0_2) else (tautochronelaw21_may.j0 k (decide ((l0_2.length : Int) > 16)) a0_0 a0_1 l0_2)))) = some r := h
  clear h
  have HC2 := Aside0.mk H
  clear H
  go_enter Try.func11, Try.ntmps11
  go_upto_region 1 with (first | ((with_reducible refine gate_dst (N := 1) rfl ?_); (try (refine gate_guard (by rfl) ?_; dsimp only)); refine box_event ?hg (N := 1) ?hd (cs := #[.int .i64 a0_0, .int .i64 a0_1, .slice A0_2 l0_2.length c0_2]) (t := 25) ?hr ?_; (case hd => rfl); (case hg => rfl); (case hr => first | (go_simp; done) | (go_simp; rfl)); intro gb314 hg w3 hbox hb; have n0_ := Aside0.mk (below_step (by repeat (first | (with_reducible first | exact HB.out | apply below_alloc | apply pw_below_drewN | apply below_drew1) | exact HB.out)) hb); have n1_ := Aside0.mk (hbox); have n2_ := Aside0.mk ((by rw [hg]; exact (below_size (by repeat (first | (with_reducible first | exact HB.out | apply below_alloc | apply pw_below_drewN | apply below_drew1) | exact HB.out))) : w.heap.size ≤ gb314)); have n3_ := Aside0.mk ((by rw [hg]; exact (below_size (by repeat (first | (with_reducible first | exact HB.out | apply below_alloc | apply pw_below_drewN | apply below_drew1) | exact HB.out))) : w.heap.size ≤ gb314)); clear HB; have HB := n0_; have BK314 := n1_; have GW314 := n2_; have GE314 := n3_; clear n0_ n1_ n2_ n3_; clear hb hbox hg))
  (try simp only [Act.put, List.setIfInBounds_toArray, List.set_cons_zero, List.set_cons_succ])
  go_cut [28] (fun v28 wc => ∃ (kq : Nat) (x28_1 : Bool), v28 = .bool x28_1 ∧ Aside0 (tautochronelaw21_may.j0 kq x28_1 a0_0 a0_1 l0_2 = some r) ∧ Aside0 (kq ≤ k) ∧ Aside0 (wc.heap[gb314]? = some (.cells #[.int .i64 a0_0, .int .i64 a0_1, (.slice A0_2 l0_2.length c0_2)] 25 (0, 0))) ∧ Aside0 (Below w.heap.size w wc))
  case first =>
    have H := HC2.out
    clear HC2
    by_cases c4 : a0_0 < 0
    · rw [if_pos c4] at H
      have c4b0 : decide (a0_0 < 0) = true := decide_eq_true c4
      clear c4
      (first | rw [c4b0] | (simp only [i64_w, i32_w]; rw [c4b0]) | skip)
      have H' := Aside0.mk H
      clear H
      have hcz5_0 : w3.cell? ⟨gb314, 0, none⟩ = some (.int .i64 a0_0) := (blk_cell BK314.out 0).trans rfl
      have hcz5_1 : w3.cell? ⟨gb314, 1, none⟩ = some (.int .i64 a0_1) := (blk_cell BK314.out 1).trans rfl
      have hcz5_2 : w3.cell? ⟨gb314, 2, none⟩ = some (.slice A0_2 l0_2.length c0_2) := (blk_cell BK314.out 2).trans rfl
      have hfz5_0 := blk_frozen BK314.out 0
      have hfz5_1 := blk_frozen BK314.out 1
      have hfz5_2 := blk_frozen BK314.out 2
      go_wp2
      go_meet
      case rel => exact ⟨_, (true), (by first | rfl | (simp; done) | (simp [*]; done)), H', ⟨by first | omega | exact Nat.le_refl _⟩, ⟨by (with_reducible repeat (first | refine blk_drewN ?_ _ | refine blk_drew ?_ | refine blk_alloc ?_ _)); exact BK314.out⟩, ⟨by repeat (first | (with_reducible first | exact HB.out | apply below_alloc | apply pw_below_drewN | apply below_drew1 | refine below_set ?_ GE314.out) | exact HB.out)⟩⟩
    · rw [if_neg c4] at H
      have c4b0 : decide (a0_0 < 0) = false := decide_eq_false c4
      clear c4
      (first | rw [c4b0] | (simp only [i64_w, i32_w]; rw [c4b0]) | skip)
      by_cases c6 : a0_0 > a0_1
      · rw [if_pos c6] at H
        have c6b0 : decide (a0_1 < a0_0) = true := decide_eq_true c6
        clear c6
        have H' := Aside0.mk H
        clear H
        have hcz7_0 : w3.cell? ⟨gb314, 0, none⟩ = some (.int .i64 a0_0) := (blk_cell BK314.out 0).trans rfl
        have hcz7_1 : w3.cell? ⟨gb314, 1, none⟩ = some (.int .i64 a0_1) := (blk_cell BK314.out 1).trans rfl
        have hcz7_2 : w3.cell? ⟨gb314, 2, none⟩ = some (.slice A0_2 l0_2.length c0_2) := (blk_cell BK314.out 2).trans rfl
        have hfz7_0 := blk_frozen BK314.out 0
        have hfz7_1 := blk_frozen BK314.out 1
        have hfz7_2 := blk_frozen BK314.out 2
        go_wp2
        go_meet
        case rel => exact ⟨_, (true), (by first | rfl | (simp; done) | (simp [*]; done)), H', ⟨by first | omega | exact Nat.le_refl _⟩, ⟨by (with_reducible repeat (first | refine blk_drewN ?_ _ | refine blk_drew ?_ | refine blk_alloc ?_ _)); exact BK314.out⟩, ⟨by repeat (first | (with_reducible first | exact HB.out | apply below_alloc | apply pw_below_drewN | apply below_drew1 | refine below_set ?_ GE314.out) | exact HB.out)⟩⟩
      · rw [if_neg c6] at H
        have c6b0 : decide (a0_1 < a0_0) = false := decide_eq_false c6
        clear c6
        by_cases c8 : a0_1 > 1048576
        · rw [if_pos c8] at H
          have c8b0 : decide (1048576 < a0_1) = true := decide_eq_true c8
          clear c8
          have H' := Aside0.mk H
          clear H
          have hcz9_0 : w3.cell? ⟨gb314, 0, none⟩ = some (.int .i64 a0_0) := (blk_cell BK314.out 0).trans rfl
          have hcz9_1 : w3.cell? ⟨gb314, 1, none⟩ = some (.int .i64 a0_1) := (blk_cell BK314.out 1).trans rfl
          have hcz9_2 : w3.cell? ⟨gb314, 2, none⟩ = some (.slice A0_2 l0_2.length c0_2) := (blk_cell BK314.out 2).trans rfl
          have hfz9_0 := blk_frozen BK314.out 0
          have hfz9_1 := blk_frozen BK314.out 1
          have hfz9_2 := blk_frozen BK314.out 2
          go_wp2
          go_meet
          case rel => exact ⟨_, (true), (by first | rfl | (simp; done) | (simp [*]; done)), H', ⟨by first | omega | exact Nat.le_refl _⟩, ⟨by (with_reducible repeat (first | refine blk_drewN ?_ _ | refine blk_drew ?_ | refine blk_alloc ?_ _)); exact BK314.out⟩, ⟨by repeat (first | (with_reducible first | exact HB.out | apply below_alloc | apply pw_below_drewN | apply below_drew1 | refine below_set ?_ GE314.out) | exact HB.out)⟩⟩
        · rw [if_neg c8] at H
          have c8b0 : decide (1048576 < a0_1) = false := decide_eq_false c8
          clear c8
          have H' := Aside0.mk H
          clear H
          have hcz10_0 : w3.cell? ⟨gb314, 0, none⟩ = some (.int .i64 a0_0) := (blk_cell BK314.out 0).trans rfl
          have hcz10_1 : w3.cell? ⟨gb314, 1, none⟩ = some (.int .i64 a0_1) := (blk_cell BK314.out 1).trans rfl
          have hcz10_2 : w3.cell? ⟨gb314, 2, none⟩ = some (.slice A0_2 l0_2.length c0_2) := (blk_cell BK314.out 2).trans rfl
          have hfz10_0 := blk_frozen BK314.out 0
          have hfz10_1 := blk_frozen BK314.out 1
          have hfz10_2 := blk_frozen BK314.out 2
          go_wp2
          go_meet
          case rel => exact ⟨_, (decide ((l0_2.length : Int) > 16)), (by first | rfl | (simp; done) | (simp [*]; done)), H', ⟨by first | omega | exact Nat.le_refl _⟩, ⟨by (with_reducible repeat (first | refine blk_drewN ?_ _ | refine blk_drew ?_ | refine blk_alloc ?_ _)); exact BK314.out⟩, ⟨by repeat (first | (with_reducible first | exact HB.out | apply below_alloc | apply pw_below_drewN | apply below_drew1 | refine below_set ?_ GE314.out) | exact HB.out)⟩⟩
  case rest =>
    clear HC2
    try clear c1
    try clear p2
    try clear c4
    try clear c4b0
    try clear c6
    try clear c6b0
    try clear c8
    try clear c8b0
    try clear hcz10_0
    try clear hcz10_1
    try clear hcz10_2
    try clear hcz5_0
    try clear hcz5_1
    try clear hcz5_2
    try clear hcz7_0
    try clear hcz7_1
    try clear hcz7_2
    try clear hcz9_0
    try clear hcz9_1
    try clear hcz9_2
    try clear hfz10_0
    try clear hfz10_1
    try clear hfz10_2
    try clear hfz5_0
    try clear hfz5_1
    try clear hfz5_2
    try clear hfz7_0
    try clear hfz7_1
    try clear hfz7_2
    try clear hfz9_0
    try clear hfz9_1
    try clear hfz9_2
    obtain ⟨kq, x28_1, rfl, HA, HJ1, BK314, HB⟩ := hcut
    cases kq with
    | zero => exact absurd HA.out (by simp [tautochronelaw21_may.j0])
    | succ kj1 =>
      have H := HA.out
      clear HA
      simp only [tautochronelaw21_may.j0] at H
      by_cases c11 : x28_1 = true
      · subst c11
        have H1 : (some false) = some r := by rw [if_pos rfl] at H; exact H
        clear H
        have H := H1
        clear H1
        obtain rfl := Option.some.inj H
        go_wp2
        go_ret
        exact ⟨by first | rfl | (simp [errW_none, errW_some] <;> rfl) | (simp [*, errW_none, errW_some] <;> rfl), by repeat (first | (with_reducible first | exact HB.out | apply below_alloc | apply pw_below_drewN | apply below_drew1 | refine below_set ?_ GE314.out) | exact HB.out)⟩
      · replace c11 := Bool.eq_false_iff.mpr c11
        subst c11
        have H1 : (tautochronelaw21_may.l0 kj1 l0_2 (l0_2.length : Int) 0 a0_0 a0_1 l0_2) = some r := by rw [if_neg (show ¬ (false = true) by decide)] at H; exact H
        clear H
        have H := H1
        clear H1
        have H' := Aside0.mk H
        clear H
        have hcz12_0 : wc.cell? ⟨gb314, 0, none⟩ = some (.int .i64 a0_0) := (blk_cell BK314.out 0).trans rfl
        have hcz12_1 : wc.cell? ⟨gb314, 1, none⟩ = some (.int .i64 a0_1) := (blk_cell BK314.out 1).trans rfl
        have hcz12_2 : wc.cell? ⟨gb314, 2, none⟩ = some (.slice A0_2 l0_2.length c0_2) := (blk_cell BK314.out 2).trans rfl
        have hfz12_0 := blk_frozen BK314.out 0
        have hfz12_1 := blk_frozen BK314.out 1
        have hfz12_2 := blk_frozen BK314.out 2
        go_wp2
        go_loopg [32] kj1 (fun kq v32 w' => ∃ (x32_2 : Int), v32 = .int .i64 x32_2 ∧ Aside0 (tautochronelaw21_may.l0 kq l0_2 (l0_2.length : Int) x32_2 a0_0 a0_1 l0_2 = some r) ∧ Aside0 (kq ≤ kj1) ∧ Aside0 (w'.heap[gb314]? = some (.cells #[.int .i64 a0_0, .int .i64 a0_1, (.slice A0_2 l0_2.length c0_2)] 25 (0, 0))) ∧ Aside0 (Below w.heap.size w w'))
        case atStart => exact ⟨(0), (by first | rfl | (simp; done) | (simp [*]; done)), H', ⟨Nat.le_refl _⟩, ⟨by (with_reducible repeat (first | refine blk_drewN ?_ _ | refine blk_drew ?_ | refine blk_alloc ?_ _)); exact BK314.out⟩, ⟨by repeat (first | (with_reducible first | exact HB.out | apply below_alloc | apply pw_below_drewN | apply below_drew1 | refine below_set ?_ GE314.out) | exact HB.out)⟩⟩
        case round =>
          clear H'
          try clear c1
          try clear p2
          try clear c4
          try clear c4b0
          try clear c6
          try clear c6b0
          try clear c8
          try clear c8b0
          try clear c11
          try clear hcz10_0
          try clear hcz10_1
          try clear hcz10_2
          try clear hcz12_0
          try clear hcz12_1
          try clear hcz12_2
          try clear hcz5_0
          try clear hcz5_1
          try clear hcz5_2
          try clear hcz7_0
          try clear hcz7_1
          try clear hcz7_2
          try clear hcz9_0
          try clear hcz9_1
          try clear hcz9_2
          try clear hfz10_0
          try clear hfz10_1
          try clear hfz10_2
          try clear hfz12_0
          try clear hfz12_1
          try clear hfz12_2
          try clear hfz5_0
          try clear hfz5_1
          try clear hfz5_2
          try clear hfz7_0
          try clear hfz7_1
          try clear hfz7_2
          try clear hfz9_0
          try clear hfz9_1
          try clear hfz9_2
          try clear p2
          obtain ⟨x32_2, rfl, HA, HK2, BK314, HB⟩ := hrel
          cases gk with
          | zero => exact absurd HA.out (by simp [tautochronelaw21_may.l0])
          | succ k2 =>
            have H := HA.out
            clear HA
            simp only [tautochronelaw21_may.l0] at H
            by_cases c13 : x32_2 < (l0_2.length : Int)
            · rw [if_pos c13] at H
              have c13b0 : decide (x32_2 < (l0_2.length : Int)) = true := decide_eq_true c13
              clear c13
              by_cases c14 : 0 ≤ x32_2
              · rw [if_pos c14] at H
                have c14b0 : decide (0 ≤ x32_2) = true := decide_eq_true c14
                clear c14
                by_cases c15 : x32_2 < (l0_2.length : Int)
                · rw [if_pos c15] at H
                  have c15b0 : decide (x32_2 < (l0_2.length : Int)) = true := decide_eq_true c15
                  clear c15
                  replace H := Option.bind_eq_some_iff.mp H
                  obtain ⟨t316, A160, H⟩ := H
                  replace H : (if t316 = true then (tautochronelaw21_may.l1 k2 l0_2 (l0_2.length : Int) x32_2 (rd_L3 l0_2 x32_2) ((rd_L3 l0_2 x32_2).length : Int) 0 a0_0 a0_1 l0_2) else (some false)) = some r := H
                  have A16 := Aside0.mk A160
                  clear A160
                  by_cases c17 : t316 = true
                  · subst c17
                    have H1 : (tautochronelaw21_may.l1 k2 l0_2 (l0_2.length : Int) x32_2 (rd_L3 l0_2 x32_2) ((rd_L3 l0_2 x32_2).length : Int) 0 a0_0 a0_1 l0_2) = some r := by rw [if_pos rfl] at H; exact H
                    clear H
                    have H := H1
                    clear H1
                    have H' := Aside0.mk H
                    clear H
                    have p315 : 0 ≤ (x32_2 : Int) := of_decide_eq_true (by first | (with_reducible assumption) | assumption)
                    have q315 : x32_2 < (l0_2.length : Int) := of_decide_eq_true (by first | (with_reducible assumption) | assumption)
                    obtain ⟨ad315, A315_0, c315_0, e315, hx315_0, hl315_0, hi315_0⟩ := at_L3 HR0_2.out x32_2 p315 q315
                    cases e315
                    replace hx315_0 := (HB.out.cell (World.block_lt_of_cell? w _ hx315_0)).trans hx315_0
                    have HR315_0 := Aside0.mk hi315_0
                    have HC315_0 := Aside0.mk hl315_0
                    clear hi315_0 hl315_0
                    replace p315 := eq_true p315
                    replace q315 := eq_true q315
                    go_wp2_with (first | ((with_reducible refine gate_callee (f := 19) rfl ?_); refine goesL_ (some 37) rfl rfl Try.func19 (by kernel_rfl) rfl #[.slice A315_0 (rd_L3 l0_2 x32_2).length c315_0] rfl (by (try simp only [List.map_toArray, List.map_cons, List.map_nil]); first | done | rfl | (simp only [List.length_drop, List.length_take]; rfl)) ?_; (with_reducible refine (code_Good.calls k2 _ _ (rd_L3 l0_2 x32_2) true _ ?side1 ?side2 A16.out).mono ?_); (case side1 => repeat (first | exact (Kd.C_below HR315_0.out HB.out) | (with_reducible refine Kd.C_alloc ?_ _) | (with_reducible refine Kd.C_drewN ?_ _) | (with_reducible refine Kd.C_drew ?_))); (case side2 => exact HC315_0.out); rintro e w18 ⟨rfl, hb⟩; refine ⟨_, rfl, ?_⟩; have n0_ := Aside0.mk (blk_below (g := gb314) (o := .cells #[.int .i64 a0_0, .int .i64 a0_1, .slice (some ad315) l0_2.length c0_2] 25 (0, 0)) (by (with_reducible repeat (first | refine blk_drewN ?_ _ | refine blk_drew ?_ | refine blk_alloc ?_ _)); exact BK314.out) hb); have n1_ := Aside0.mk (below_step (by repeat (first | (with_reducible first | exact HB.out | apply below_alloc | apply pw_below_drewN | apply below_drew1 | refine below_set ?_ GE314.out) | exact HB.out)) hb); clear BK314; clear HB; have BK314 := n0_; have HB := n1_; clear n0_ n1_; (try clear hb); (try clear hb2); (try clear hk); (try clear hi)))
                    go_loopg [41] k2 (fun kq v41 w' => ∃ (x41_3 : Int), v41 = .int .i64 x41_3 ∧ Aside0 (tautochronelaw21_may.l1 kq l0_2 (l0_2.length : Int) x32_2 (rd_L3 l0_2 x32_2) ((rd_L3 l0_2 x32_2).length : Int) x41_3 a0_0 a0_1 l0_2 = some r) ∧ Aside0 (kq ≤ k2) ∧ Aside0 (w'.heap[gb314]? = some (.cells #[.int .i64 a0_0, .int .i64 a0_1, (.slice (some ad315) l0_2.length c0_2)] 25 (0, 0))) ∧ Aside0 (Below w.heap.size w w'))
                    case atStart => exact ⟨(0), (by first | rfl | (simp; done) | (simp [*]; done)), H', ⟨Nat.le_refl _⟩, ⟨by (with_reducible repeat (first | refine blk_drewN ?_ _ | refine blk_drew ?_ | refine blk_alloc ?_ _)); exact BK314.out⟩, ⟨by repeat (first | (with_reducible first | exact HB.out | apply below_alloc | apply pw_below_drewN | apply below_drew1 | refine below_set ?_ GE314.out) | exact HB.out)⟩⟩
                    case round =>
                      clear H'
                      try clear c1
                      try clear p2
                      try clear c3
                      try clear p3
                      try clear q3
                      try clear hx3
                      try clear c4
                      try clear c4b0
                      try clear c6
                      try clear c6b0
                      try clear c8
                      try clear c8b0
                      try clear c11
                      try clear c13
                      try clear c13b0
                      try clear c14
                      try clear c14b0
                      try clear c15
                      try clear c15b0
                      try clear c17
                      try clear hcz10_0
                      try clear hcz10_1
                      try clear hcz10_2
                      try clear hcz12_0
                      try clear hcz12_1
                      try clear hcz12_2
                      try clear hcz5_0
                      try clear hcz5_1
                      try clear hcz5_2
                      try clear hcz7_0
                      try clear hcz7_1
                      try clear hcz7_2
                      try clear hcz9_0
                      try clear hcz9_1
                      try clear hcz9_2
                      try clear hfz10_0
                      try clear hfz10_1
                      try clear hfz10_2
                      try clear hfz12_0
                      try clear hfz12_1
                      try clear hfz12_2
                      try clear hfz5_0
                      try clear hfz5_1
                      try clear hfz5_2
                      try clear hfz7_0
                      try clear hfz7_1
                      try clear hfz7_2
                      try clear hfz9_0
                      try clear hfz9_1
                      try clear hfz9_2
                      try clear hx315_0
                      try clear p2
                      try clear p315
                      try clear q315
                      obtain ⟨x41_3, rfl, HA, HK3, BK314, HB⟩ := hrel
                      cases gk with
                      | zero => exact absurd HA.out (by simp [tautochronelaw21_may.l1])
                      | succ k3 =>
                        have H := HA.out
                        clear HA
                        simp only [tautochronelaw21_may.l1] at H
                        by_cases c19 : x41_3 < ((rd_L3 l0_2 x32_2).length : Int)
                        · rw [if_pos c19] at H
                          have c19b0 : decide (x41_3 < ((rd_L3 l0_2 x32_2).length : Int)) = true := decide_eq_true c19
                          clear c19
                          by_cases c20 : 0 ≤ x41_3
                          · rw [if_pos c20] at H
                            have c20b0 : decide (0 ≤ x41_3) = true := decide_eq_true c20
                            clear c20
                            by_cases c21 : x41_3 < ((rd_L3 l0_2 x32_2).length : Int)
                            · rw [if_pos c21] at H
                              have c21b0 : decide (x41_3 < ((rd_L3 l0_2 x32_2).length : Int)) = true := decide_eq_true c21
                              clear c21
                              by_cases hor1_ : ((rd_T46 (rd_L3 l0_2 x32_2) x41_3).f0) = 4 ∨ ((rd_T46 (rd_L3 l0_2 x32_2) x41_3).f0) = 5 ∨ ((rd_T46 (rd_L3 l0_2 x32_2) x41_3).f0) = 8 ∨ ((rd_T46 (rd_L3 l0_2 x32_2) x41_3).f0) = 9
                              · rcases hor1_ with hor1_ | hor1_ | hor1_ | hor1_
                                rw [if_pos hor1_] at H
                                have hor1__0 : (((rd_T46 (rd_L3 l0_2 x32_2) x41_3).f0) == 4) = true := by rw [hor1_]; rfl
                                have hor1__0n : (((rd_T46 (rd_L3 l0_2 x32_2) x41_3).f0) != 4) = false := by rw [hor1_]; rfl
                                clear hor1_
                                rotate_left
                                rw [if_neg (show ¬ ((rd_T46 (rd_L3 l0_2 x32_2) x41_3).f0) = 4 by rw [hor1_]; decide), if_pos hor1_] at H
                                have hor1__0 : (((rd_T46 (rd_L3 l0_2 x32_2) x41_3).f0) == 4) = false := by rw [hor1_]; rfl
                                have hor1__0n : (((rd_T46 (rd_L3 l0_2 x32_2) x41_3).f0) != 4) = true := by rw [hor1_]; rfl
                                have hor1__1 : (((rd_T46 (rd_L3 l0_2 x32_2) x41_3).f0) == 5) = true := by rw [hor1_]; rfl
                                have hor1__1n : (((rd_T46 (rd_L3 l0_2 x32_2) x41_3).f0) != 5) = false := by rw [hor1_]; rfl
                                clear hor1_
                                rotate_left
                                rw [if_neg (show ¬ ((rd_T46 (rd_L3 l0_2 x32_2) x41_3).f0) = 4 by rw [hor1_]; decide), if_neg (show ¬ ((rd_T46 (rd_L3 l0_2 x32_2) x41_3).f0) = 5 by rw [hor1_]; decide), if_pos hor1_] at H
                                have hor1__0 : (((rd_T46 (rd_L3 l0_2 x32_2) x41_3).f0) == 4) = false := by rw [hor1_]; rfl
                                have hor1__0n : (((rd_T46 (rd_L3 l0_2 x32_2) x41_3).f0) != 4) = true := by rw [hor1_]; rfl
                                have hor1__1 : (((rd_T46 (rd_L3 l0_2 x32_2) x41_3).f0) == 5) = false := by rw [hor1_]; rfl
                                have hor1__1n : (((rd_T46 (rd_L3 l0_2 x32_2) x41_3).f0) != 5) = true := by rw [hor1_]; rfl
                                have hor1__2 : (((rd_T46 (rd_L3 l0_2 x32_2) x41_3).f0) == 8) = true := by rw [hor1_]; rfl
                                have hor1__2n : (((rd_T46 (rd_L3 l0_2 x32_2) x41_3).f0) != 8) = false := by rw [hor1_]; rfl
                                clear hor1_
                                rotate_left
                                rw [if_neg (show ¬ ((rd_T46 (rd_L3 l0_2 x32_2) x41_3).f0) = 4 by rw [hor1_]; decide), if_neg (show ¬ ((rd_T46 (rd_L3 l0_2 x32_2) x41_3).f0) = 5 by rw [hor1_]; decide), if_neg (show ¬ ((rd_T46 (rd_L3 l0_2 x32_2) x41_3).f0) = 8 by rw [hor1_]; decide), if_pos hor1_] at H
                                have hor1__0 : (((rd_T46 (rd_L3 l0_2 x32_2) x41_3).f0) == 4) = false := by rw [hor1_]; rfl
                                have hor1__0n : (((rd_T46 (rd_L3 l0_2 x32_2) x41_3).f0) != 4) = true := by rw [hor1_]; rfl
                                have hor1__1 : (((rd_T46 (rd_L3 l0_2 x32_2) x41_3).f0) == 5) = false := by rw [hor1_]; rfl
                                have hor1__1n : (((rd_T46 (rd_L3 l0_2 x32_2) x41_3).f0) != 5) = true := by rw [hor1_]; rfl
                                have hor1__2 : (((rd_T46 (rd_L3 l0_2 x32_2) x41_3).f0) == 8) = false := by rw [hor1_]; rfl
                                have hor1__2n : (((rd_T46 (rd_L3 l0_2 x32_2) x41_3).f0) != 8) = true := by rw [hor1_]; rfl
                                have hor1__3 : (((rd_T46 (rd_L3 l0_2 x32_2) x41_3).f0) == 9) = true := by rw [hor1_]; rfl
                                have hor1__3n : (((rd_T46 (rd_L3 l0_2 x32_2) x41_3).f0) != 9) = false := by rw [hor1_]; rfl
                                clear hor1_
                                rotate_left
                                all_goals
                                  replace H := Option.bind_eq_some_iff.mp H
                                  obtain ⟨t319, A230, H⟩ := H
                                  replace H : (if t319 = true then (if ((rd_T46 (rd_L3 l0_2 x32_2) x41_3).f6) ≥ (IntKind.u64.wrap (a0_1)) then (some false) else (tautochronelaw21_may.l1 k3 l0_2 (l0_2.length : Int) x32_2 (rd_L3 l0_2 x32_2) ((rd_L3 l0_2 x32_2).length : Int) (wrap64 (x41_3 + 1)) a0_0 a0_1 l0_2)) else (some false)) = some r := H
                                  have A23 := Aside0.mk A230
                                  clear A230
                                  by_cases c24 : t319 = true
                                  · subst c24
                                    have H1 : (if ((rd_T46 (rd_L3 l0_2 x32_2) x41_3).f6) ≥ (IntKind.u64.wrap (a0_1)) then (some false) else (tautochronelaw21_may.l1 k3 l0_2 (l0_2.length : Int) x32_2 (rd_L3 l0_2 x32_2) ((rd_L3 l0_2 x32_2).length : Int) (wrap64 (x41_3 + 1)) a0_0 a0_1 l0_2)) = some r := by rw [if_pos rfl] at H; exact H
                                    clear H
                                    have H := H1
                                    clear H1
                                    by_cases c25 : ((rd_T46 (rd_L3 l0_2 x32_2) x41_3).f6) ≥ (IntKind.u64.wrap (a0_1))
                                    · rw [if_pos c25] at H
                                      have c25b0 : decide ((IntKind.u64.wrap (a0_1)) ≤ ((rd_T46 (rd_L3 l0_2 x32_2) x41_3).f6)) = true := decide_eq_true c25
                                      clear c25
                                      obtain rfl := Option.some.inj H
                                      have p317 : 0 ≤ (x41_3 : Int) := of_decide_eq_true (by first | (with_reducible assumption) | assumption)
                                      have q317 : x41_3 < ((rd_L3 l0_2 x32_2).length : Int) := of_decide_eq_true (by first | (with_reducible assumption) | assumption)
                                      obtain ⟨ad317, e317, hx317_0, hx317_1, hx317_2, hx317_3, hx317_4, hx317_5, hx317_6, hx317_7⟩ := at_T46 HR315_0.out x41_3 p317 q317
                                      cases e317
                                      replace hx317_0 := (HB.out.cell (World.block_lt_of_cell? w _ hx317_0)).trans hx317_0
                                      replace hx317_1 := (HB.out.cell (World.block_lt_of_cell? w _ hx317_1)).trans hx317_1
                                      replace hx317_2 := (HB.out.cell (World.block_lt_of_cell? w _ hx317_2)).trans hx317_2
                                      replace hx317_3 := (HB.out.cell (World.block_lt_of_cell? w _ hx317_3)).trans hx317_3
                                      replace hx317_4 := (HB.out.cell (World.block_lt_of_cell? w _ hx317_4)).trans hx317_4
                                      replace hx317_5 := (HB.out.cell (World.block_lt_of_cell? w _ hx317_5)).trans hx317_5
                                      replace hx317_6 := (HB.out.cell (World.block_lt_of_cell? w _ hx317_6)).trans hx317_6
                                      replace hx317_7 := (HB.out.cell (World.block_lt_of_cell? w _ hx317_7)).trans hx317_7
                                      replace p317 := eq_true p317
                                      replace q317 := eq_true q317
                                      go_wp2_with (first | ((with_reducible refine gate_dst (N := 6) rfl ?_); (try (refine gate_guard (by rfl) ?_; dsimp only)); refine box_event ?hg (N := 6) ?hd (cs := #[.int .i64 0, .int .i64 0, .int .i64 0, .int .i64 0, .int .i64 0, .int .i64 0, .int .u64 0, .int .i64 0]) (t := 46) ?hr ?_; (case hd => rfl); (case hg => rfl); (case hr => first | (go_simp; done) | (go_simp; rfl)); intro gb318 hg w26 hbox hb; have n0_ := Aside0.mk (blk_below (g := gb314) (o := .cells #[.int .i64 a0_0, .int .i64 a0_1, .slice (some ad315) l0_2.length c0_2] 25 (0, 0)) (by (with_reducible repeat (first | refine blk_drewN ?_ _ | refine blk_drew ?_ | refine blk_alloc ?_ _)); exact BK314.out) hb); have n1_ := Aside0.mk (below_step (by repeat (first | (with_reducible first | exact HB.out | apply below_alloc | apply pw_below_drewN | apply below_drew1 | refine below_set ?_ GE314.out) | exact HB.out)) hb); have n2_ := Aside0.mk (hbox); have n3_ := Aside0.mk ((by rw [hg]; exact (below_size (by repeat (first | (with_reducible first | exact HB.out | apply below_alloc | apply pw_below_drewN | apply below_drew1 | refine below_set ?_ GE314.out) | exact HB.out))) : w.heap.size ≤ gb318)); have n4_ := Aside0.mk ((by rw [hg]; exact (below_size (by repeat (first | (with_reducible first | exact HB.out | apply below_alloc | apply pw_below_drewN | apply below_drew1 | refine below_set ?_ GE314.out) | exact HB.out))) : w.heap.size ≤ gb318)); have n5_ := Aside0.mk ((by rw [hg]; exact Nat.ne_of_lt (blk_lt (g := gb314) (o := .cells #[.int .i64 a0_0, .int .i64 a0_1, .slice (some ad315) l0_2.length c0_2] 25 (0, 0)) (by (with_reducible repeat (first | refine blk_drewN ?_ _ | refine blk_drew ?_ | refine blk_alloc ?_ _)); exact BK314.out)) : gb314 ≠ gb318)); have n6_ := Aside0.mk ((by rw [hg]; exact Nat.ne_of_gt (blk_lt (g := gb314) (o := .cells #[.int .i64 a0_0, .int .i64 a0_1, .slice (some ad315) l0_2.length c0_2] 25 (0, 0)) (by (with_reducible repeat (first | refine blk_drewN ?_ _ | refine blk_drew ?_ | refine blk_alloc ?_ _)); exact BK314.out)) : gb318 ≠ gb314)); clear BK314; clear HB; have BK314 := n0_; have HB := n1_; have BK318 := n2_; have GW318 := n3_; have GE318 := n4_; have NB314_318 := n5_; have NB318_314 := n6_; clear n0_ n1_ n2_ n3_ n4_ n5_ n6_; clear hb hbox hg; have hnb27 := NB318_314.out; have hnc27 := NB314_318.out; have hcz28_0 : w26.cell? ⟨gb318, 0, none⟩ = some (.int .i64 0) := (blk_cell BK318.out 0).trans rfl; have hcz28_1 : w26.cell? ⟨gb318, 1, none⟩ = some (.int .i64 0) := (blk_cell BK318.out 1).trans rfl; have hcz28_2 : w26.cell? ⟨gb318, 2, none⟩ = some (.int .i64 0) := (blk_cell BK318.out 2).trans rfl; have hcz28_3 : w26.cell? ⟨gb318, 3, none⟩ = some (.int .i64 0) := (blk_cell BK318.out 3).trans rfl; have hcz28_4 : w26.cell? ⟨gb318, 4, none⟩ = some (.int .i64 0) := (blk_cell BK318.out 4).trans rfl; have hcz28_5 : w26.cell? ⟨gb318, 5, none⟩ = some (.int .i64 0) := (blk_cell BK318.out 5).trans rfl; have hcz28_6 : w26.cell? ⟨gb318, 6, none⟩ = some (.int .u64 0) := (blk_cell BK318.out 6).trans rfl; have hcz28_7 : w26.cell? ⟨gb318, 7, none⟩ = some (.int .i64 0) := (blk_cell BK318.out 7).trans rfl; have hfz28_0 := blk_frozen BK318.out 0; have hfz28_1 := blk_frozen BK318.out 1; have hfz28_2 := blk_frozen BK318.out 2; have hfz28_3 := blk_frozen BK318.out 3; have hfz28_4 := blk_frozen BK318.out 4; have hfz28_5 := blk_frozen BK318.out 5; have hfz28_6 := blk_frozen BK318.out 6; have hfz28_7 := blk_frozen BK318.out 7) | ((with_reducible refine gate_callee (f := 20) rfl ?_); refine goesL_ (some 69) rfl rfl Try.func20 (by kernel_rfl) rfl #[.agg #[.int .i64 ((rd_T46 (rd_L3 l0_2 x32_2) x41_3).f0), .int .i64 ((rd_T46 (rd_L3 l0_2 x32_2) x41_3).f1), .int .i64 ((rd_T46 (rd_L3 l0_2 x32_2) x41_3).f2), .int .i64 ((rd_T46 (rd_L3 l0_2 x32_2) x41_3).f3), .int .i64 ((rd_T46 (rd_L3 l0_2 x32_2) x41_3).f4), .int .i64 ((rd_T46 (rd_L3 l0_2 x32_2) x41_3).f5), .int .u64 ((rd_T46 (rd_L3 l0_2 x32_2) x41_3).f6), .int .i64 ((rd_T46 (rd_L3 l0_2 x32_2) x41_3).f7)]] rfl (by (try simp only [List.map_toArray, List.map_cons, List.map_nil]); first | done | rfl | (simp only [List.length_drop, List.length_take]; rfl)) ?_; (with_reducible refine (encode_May.calls k3 ((rd_T46 (rd_L3 l0_2 x32_2) x41_3).f0) ((rd_T46 (rd_L3 l0_2 x32_2) x41_3).f1) ((rd_T46 (rd_L3 l0_2 x32_2) x41_3).f2) ((rd_T46 (rd_L3 l0_2 x32_2) x41_3).f3) ((rd_T46 (rd_L3 l0_2 x32_2) x41_3).f4) ((rd_T46 (rd_L3 l0_2 x32_2) x41_3).f5) ((rd_T46 (rd_L3 l0_2 x32_2) x41_3).f6) ((rd_T46 (rd_L3 l0_2 x32_2) x41_3).f7) true _ A23.out).mono ?_); rintro e w29 ⟨rfl, hb⟩; refine ⟨_, rfl, ?_⟩; have n0_ := Aside0.mk (blk_below (g := gb314) (o := .cells #[.int .i64 a0_0, .int .i64 a0_1, .slice (some ad315) l0_2.length c0_2] 25 (0, 0)) (by (with_reducible repeat (first | refine blk_drewN ?_ _ | refine blk_drew ?_ | refine blk_alloc ?_ _)); refine blk_far ?_ NB314_318.out _; (with_reducible repeat (first | refine blk_drewN ?_ _ | refine blk_drew ?_ | refine blk_alloc ?_ _)); refine blk_far ?_ NB314_318.out _; (with_reducible repeat (first | refine blk_drewN ?_ _ | refine blk_drew ?_ | refine blk_alloc ?_ _)); refine blk_far ?_ NB314_318.out _; (with_reducible repeat (first | refine blk_drewN ?_ _ | refine blk_drew ?_ | refine blk_alloc ?_ _)); refine blk_far ?_ NB314_318.out _; (with_reducible repeat (first | refine blk_drewN ?_ _ | refine blk_drew ?_ | refine blk_alloc ?_ _)); refine blk_far ?_ NB314_318.out _; (with_reducible repeat (first | refine blk_drewN ?_ _ | refine blk_drew ?_ | refine blk_alloc ?_ _)); refine blk_far ?_ NB314_318.out _; (with_reducible repeat (first | refine blk_drewN ?_ _ | refine blk_drew ?_ | refine blk_alloc ?_ _)); refine blk_far ?_ NB314_318.out _; (with_reducible repeat (first | refine blk_drewN ?_ _ | refine blk_drew ?_ | refine blk_alloc ?_ _)); refine blk_far ?_ NB314_318.out _; (with_reducible repeat (first | refine blk_drewN ?_ _ | refine blk_drew ?_ | refine blk_alloc ?_ _)); exact BK314.out) hb); have n1_ := Aside0.mk (blk_below (g := gb318) (o := .cells #[.int .i64 ((rd_T46 (rd_L3 l0_2 x32_2) x41_3).f0), .int .i64 ((rd_T46 (rd_L3 l0_2 x32_2) x41_3).f1), .int .i64 ((rd_T46 (rd_L3 l0_2 x32_2) x41_3).f2), .int .i64 ((rd_T46 (rd_L3 l0_2 x32_2) x41_3).f3), .int .i64 ((rd_T46 (rd_L3 l0_2 x32_2) x41_3).f4), .int .i64 ((rd_T46 (rd_L3 l0_2 x32_2) x41_3).f5), .int .u64 ((rd_T46 (rd_L3 l0_2 x32_2) x41_3).f6), .int .i64 ((rd_T46 (rd_L3 l0_2 x32_2) x41_3).f7)] 46 (0, 0)) (by (with_reducible repeat (first | refine blk_drewN ?_ _ | refine blk_drew ?_ | refine blk_alloc ?_ _)); refine blk_put (cs := #[.int .i64 ((rd_T46 (rd_L3 l0_2 x32_2) x41_3).f0), .int .i64 ((rd_T46 (rd_L3 l0_2 x32_2) x41_3).f1), .int .i64 ((rd_T46 (rd_L3 l0_2 x32_2) x41_3).f2), .int .i64 ((rd_T46 (rd_L3 l0_2 x32_2) x41_3).f3), .int .i64 ((rd_T46 (rd_L3 l0_2 x32_2) x41_3).f4), .int .i64 ((rd_T46 (rd_L3 l0_2 x32_2) x41_3).f5), .int .u64 ((rd_T46 (rd_L3 l0_2 x32_2) x41_3).f6), .int .i64 0]) ?_ 7 _ rfl; (with_reducible repeat (first | refine blk_drewN ?_ _ | refine blk_drew ?_ | refine blk_alloc ?_ _)); refine blk_put (cs := #[.int .i64 ((rd_T46 (rd_L3 l0_2 x32_2) x41_3).f0), .int .i64 ((rd_T46 (rd_L3 l0_2 x32_2) x41_3).f1), .int .i64 ((rd_T46 (rd_L3 l0_2 x32_2) x41_3).f2), .int .i64 ((rd_T46 (rd_L3 l0_2 x32_2) x41_3).f3), .int .i64 ((rd_T46 (rd_L3 l0_2 x32_2) x41_3).f4), .int .i64 ((rd_T46 (rd_L3 l0_2 x32_2) x41_3).f5), .int .u64 0, .int .i64 0]) ?_ 6 _ rfl; (with_reducible repeat (first | refine blk_drewN ?_ _ | refine blk_drew ?_ | refine blk_alloc ?_ _)); refine blk_put (cs := #[.int .i64 ((rd_T46 (rd_L3 l0_2 x32_2) x41_3).f0), .int .i64 ((rd_T46 (rd_L3 l0_2 x32_2) x41_3).f1), .int .i64 ((rd_T46 (rd_L3 l0_2 x32_2) x41_3).f2), .int .i64 ((rd_T46 (rd_L3 l0_2 x32_2) x41_3).f3), .int .i64 ((rd_T46 (rd_L3 l0_2 x32_2) x41_3).f4), .int .i64 0, .int .u64 0, .int .i64 0]) ?_ 5 _ rfl; (with_reducible repeat (first | refine blk_drewN ?_ _ | refine blk_drew ?_ | refine blk_alloc ?_ _)); refine blk_put (cs := #[.int .i64 ((rd_T46 (rd_L3 l0_2 x32_2) x41_3).f0), .int .i64 ((rd_T46 (rd_L3 l0_2 x32_2) x41_3).f1), .int .i64 ((rd_T46 (rd_L3 l0_2 x32_2) x41_3).f2), .int .i64 ((rd_T46 (rd_L3 l0_2 x32_2) x41_3).f3), .int .i64 0, .int .i64 0, .int .u64 0, .int .i64 0]) ?_ 4 _ rfl; (with_reducible repeat (first | refine blk_drewN ?_ _ | refine blk_drew ?_ | refine blk_alloc ?_ _)); refine blk_put (cs := #[.int .i64 ((rd_T46 (rd_L3 l0_2 x32_2) x41_3).f0), .int .i64 ((rd_T46 (rd_L3 l0_2 x32_2) x41_3).f1), .int .i64 ((rd_T46 (rd_L3 l0_2 x32_2) x41_3).f2), .int .i64 0, .int .i64 0, .int .i64 0, .int .u64 0, .int .i64 0]) ?_ 3 _ rfl; (with_reducible repeat (first | refine blk_drewN ?_ _ | refine blk_drew ?_ | refine blk_alloc ?_ _)); refine blk_put (cs := #[.int .i64 ((rd_T46 (rd_L3 l0_2 x32_2) x41_3).f0), .int .i64 ((rd_T46 (rd_L3 l0_2 x32_2) x41_3).f1), .int .i64 0, .int .i64 0, .int .i64 0, .int .i64 0, .int .u64 0, .int .i64 0]) ?_ 2 _ rfl; (with_reducible repeat (first | refine blk_drewN ?_ _ | refine blk_drew ?_ | refine blk_alloc ?_ _)); refine blk_put (cs := #[.int .i64 ((rd_T46 (rd_L3 l0_2 x32_2) x41_3).f0), .int .i64 0, .int .i64 0, .int .i64 0, .int .i64 0, .int .i64 0, .int .u64 0, .int .i64 0]) ?_ 1 _ rfl; (with_reducible repeat (first | refine blk_drewN ?_ _ | refine blk_drew ?_ | refine blk_alloc ?_ _)); refine blk_put (cs := #[.int .i64 0, .int .i64 0, .int .i64 0, .int .i64 0, .int .i64 0, .int .i64 0, .int .u64 0, .int .i64 0]) ?_ 0 _ rfl; (with_reducible repeat (first | refine blk_drewN ?_ _ | refine blk_drew ?_ | refine blk_alloc ?_ _)); exact BK318.out) hb); have n2_ := Aside0.mk (below_step (by repeat (first | (with_reducible first | exact HB.out | apply below_alloc | apply pw_below_drewN | apply below_drew1 | refine below_set ?_ GE314.out | refine below_set ?_ GE318.out) | exact HB.out)) hb); clear BK314; clear BK318; clear HB; have BK314 := n0_; have BK318 := n1_; have HB := n2_; clear n0_ n1_ n2_; (try clear hb); (try clear hb2); (try clear hk); (try clear hi); have hcz30_0 : w29.cell? ⟨gb318, 0, none⟩ = some (.int .i64 ((rd_T46 (rd_L3 l0_2 x32_2) x41_3).f0)) := (blk_cell BK318.out 0).trans rfl; have hcz30_1 : w29.cell? ⟨gb318, 1, none⟩ = some (.int .i64 ((rd_T46 (rd_L3 l0_2 x32_2) x41_3).f1)) := (blk_cell BK318.out 1).trans rfl; have hcz30_2 : w29.cell? ⟨gb318, 2, none⟩ = some (.int .i64 ((rd_T46 (rd_L3 l0_2 x32_2) x41_3).f2)) := (blk_cell BK318.out 2).trans rfl; have hcz30_3 : w29.cell? ⟨gb318, 3, none⟩ = some (.int .i64 ((rd_T46 (rd_L3 l0_2 x32_2) x41_3).f3)) := (blk_cell BK318.out 3).trans rfl; have hcz30_4 : w29.cell? ⟨gb318, 4, none⟩ = some (.int .i64 ((rd_T46 (rd_L3 l0_2 x32_2) x41_3).f4)) := (blk_cell BK318.out 4).trans rfl; have hcz30_5 : w29.cell? ⟨gb318, 5, none⟩ = some (.int .i64 ((rd_T46 (rd_L3 l0_2 x32_2) x41_3).f5)) := (blk_cell BK318.out 5).trans rfl; have hcz30_6 : w29.cell? ⟨gb318, 6, none⟩ = some (.int .u64 ((rd_T46 (rd_L3 l0_2 x32_2) x41_3).f6)) := (blk_cell BK318.out 6).trans rfl; have hcz30_7 : w29.cell? ⟨gb318, 7, none⟩ = some (.int .i64 ((rd_T46 (rd_L3 l0_2 x32_2) x41_3).f7)) := (blk_cell BK318.out 7).trans rfl; have hfz30_0 := blk_frozen BK318.out 0; have hfz30_1 := blk_frozen BK318.out 1; have hfz30_2 := blk_frozen BK318.out 2; have hfz30_3 := blk_frozen BK318.out 3; have hfz30_4 := blk_frozen BK318.out 4; have hfz30_5 := blk_frozen BK318.out 5; have hfz30_6 := blk_frozen BK318.out 6; have hfz30_7 := blk_frozen BK318.out 7; have hcz31_0 : w29.cell? ⟨gb314, 0, none⟩ = some (.int .i64 a0_0) := (blk_cell BK314.out 0).trans rfl; have hcz31_1 : w29.cell? ⟨gb314, 1, none⟩ = some (.int .i64 a0_1) := (blk_cell BK314.out 1).trans rfl; have hcz31_2 : w29.cell? ⟨gb314, 2, none⟩ = some (.slice (some ad315) l0_2.length c0_2) := (blk_cell BK314.out 2).trans rfl; have hfz31_0 := blk_frozen BK314.out 0; have hfz31_1 := blk_frozen BK314.out 1; have hfz31_2 := blk_frozen BK314.out 2))
                                      go_ret
                                      exact ⟨by first | rfl | (simp [errW_none, errW_some] <;> rfl) | (simp [*, errW_none, errW_some] <;> rfl), by repeat (first | (with_reducible first | exact HB.out | apply below_alloc | apply pw_below_drewN | apply below_drew1 | refine below_set ?_ GE314.out | refine below_set ?_ GE318.out) | exact HB.out)⟩
                                    · rw [if_neg c25] at H
                                      have c25b0 : decide ((IntKind.u64.wrap (a0_1)) ≤ ((rd_T46 (rd_L3 l0_2 x32_2) x41_3).f6)) = false := decide_eq_false c25
                                      clear c25
                                      have H' := Aside0.mk H
                                      clear H
                                      have p317 : 0 ≤ (x41_3 : Int) := of_decide_eq_true (by first | (with_reducible assumption) | assumption)
                                      have q317 : x41_3 < ((rd_L3 l0_2 x32_2).length : Int) := of_decide_eq_true (by first | (with_reducible assumption) | assumption)
                                      obtain ⟨ad317, e317, hx317_0, hx317_1, hx317_2, hx317_3, hx317_4, hx317_5, hx317_6, hx317_7⟩ := at_T46 HR315_0.out x41_3 p317 q317
                                      cases e317
                                      replace hx317_0 := (HB.out.cell (World.block_lt_of_cell? w _ hx317_0)).trans hx317_0
                                      replace hx317_1 := (HB.out.cell (World.block_lt_of_cell? w _ hx317_1)).trans hx317_1
                                      replace hx317_2 := (HB.out.cell (World.block_lt_of_cell? w _ hx317_2)).trans hx317_2
                                      replace hx317_3 := (HB.out.cell (World.block_lt_of_cell? w _ hx317_3)).trans hx317_3
                                      replace hx317_4 := (HB.out.cell (World.block_lt_of_cell? w _ hx317_4)).trans hx317_4
                                      replace hx317_5 := (HB.out.cell (World.block_lt_of_cell? w _ hx317_5)).trans hx317_5
                                      replace hx317_6 := (HB.out.cell (World.block_lt_of_cell? w _ hx317_6)).trans hx317_6
                                      replace hx317_7 := (HB.out.cell (World.block_lt_of_cell? w _ hx317_7)).trans hx317_7
                                      replace p317 := eq_true p317
                                      replace q317 := eq_true q317
                                      go_wp2_with (first | ((with_reducible refine gate_dst (N := 6) rfl ?_); (try (refine gate_guard (by rfl) ?_; dsimp only)); refine box_event ?hg (N := 6) ?hd (cs := #[.int .i64 0, .int .i64 0, .int .i64 0, .int .i64 0, .int .i64 0, .int .i64 0, .int .u64 0, .int .i64 0]) (t := 46) ?hr ?_; (case hd => rfl); (case hg => rfl); (case hr => first | (go_simp; done) | (go_simp; rfl)); intro gb318 hg w32 hbox hb; have n0_ := Aside0.mk (blk_below (g := gb314) (o := .cells #[.int .i64 a0_0, .int .i64 a0_1, .slice (some ad315) l0_2.length c0_2] 25 (0, 0)) (by (with_reducible repeat (first | refine blk_drewN ?_ _ | refine blk_drew ?_ | refine blk_alloc ?_ _)); exact BK314.out) hb); have n1_ := Aside0.mk (below_step (by repeat (first | (with_reducible first | exact HB.out | apply below_alloc | apply pw_below_drewN | apply below_drew1 | refine below_set ?_ GE314.out) | exact HB.out)) hb); have n2_ := Aside0.mk (hbox); have n3_ := Aside0.mk ((by rw [hg]; exact (below_size (by repeat (first | (with_reducible first | exact HB.out | apply below_alloc | apply pw_below_drewN | apply below_drew1 | refine below_set ?_ GE314.out) | exact HB.out))) : w.heap.size ≤ gb318)); have n4_ := Aside0.mk ((by rw [hg]; exact (below_size (by repeat (first | (with_reducible first | exact HB.out | apply below_alloc | apply pw_below_drewN | apply below_drew1 | refine below_set ?_ GE314.out) | exact HB.out))) : w.heap.size ≤ gb318)); have n5_ := Aside0.mk ((by rw [hg]; exact Nat.ne_of_lt (blk_lt (g := gb314) (o := .cells #[.int .i64 a0_0, .int .i64 a0_1, .slice (some ad315) l0_2.length c0_2] 25 (0, 0)) (by (with_reducible repeat (first | refine blk_drewN ?_ _ | refine blk_drew ?_ | refine blk_alloc ?_ _)); exact BK314.out)) : gb314 ≠ gb318)); have n6_ := Aside0.mk ((by rw [hg]; exact Nat.ne_of_gt (blk_lt (g := gb314) (o := .cells #[.int .i64 a0_0, .int .i64 a0_1, .slice (some ad315) l0_2.length c0_2] 25 (0, 0)) (by (with_reducible repeat (first | refine blk_drewN ?_ _ | refine blk_drew ?_ | refine blk_alloc ?_ _)); exact BK314.out)) : gb318 ≠ gb314)); clear BK314; clear HB; have BK314 := n0_; have HB := n1_; have BK318 := n2_; have GW318 := n3_; have GE318 := n4_; have NB314_318 := n5_; have NB318_314 := n6_; clear n0_ n1_ n2_ n3_ n4_ n5_ n6_; clear hb hbox hg; have hnb33 := NB318_314.out; have hnc33 := NB314_318.out; have hcz34_0 : w32.cell? ⟨gb318, 0, none⟩ = some (.int .i64 0) := (blk_cell BK318.out 0).trans rfl; have hcz34_1 : w32.cell? ⟨gb318, 1, none⟩ = some (.int .i64 0) := (blk_cell BK318.out 1).trans rfl; have hcz34_2 : w32.cell? ⟨gb318, 2, none⟩ = some (.int .i64 0) := (blk_cell BK318.out 2).trans rfl; have hcz34_3 : w32.cell? ⟨gb318, 3, none⟩ = some (.int .i64 0) := (blk_cell BK318.out 3).trans rfl; have hcz34_4 : w32.cell? ⟨gb318, 4, none⟩ = some (.int .i64 0) := (blk_cell BK318.out 4).trans rfl; have hcz34_5 : w32.cell? ⟨gb318, 5, none⟩ = some (.int .i64 0) := (blk_cell BK318.out 5).trans rfl; have hcz34_6 : w32.cell? ⟨gb318, 6, none⟩ = some (.int .u64 0) := (blk_cell BK318.out 6).trans rfl; have hcz34_7 : w32.cell? ⟨gb318, 7, none⟩ = some (.int .i64 0) := (blk_cell BK318.out 7).trans rfl; have hfz34_0 := blk_frozen BK318.out 0; have hfz34_1 := blk_frozen BK318.out 1; have hfz34_2 := blk_frozen BK318.out 2; have hfz34_3 := blk_frozen BK318.out 3; have hfz34_4 := blk_frozen BK318.out 4; have hfz34_5 := blk_frozen BK318.out 5; have hfz34_6 := blk_frozen BK318.out 6; have hfz34_7 := blk_frozen BK318.out 7) | ((with_reducible refine gate_callee (f := 20) rfl ?_); refine goesL_ (some 69) rfl rfl Try.func20 (by kernel_rfl) rfl #[.agg #[.int .i64 ((rd_T46 (rd_L3 l0_2 x32_2) x41_3).f0), .int .i64 ((rd_T46 (rd_L3 l0_2 x32_2) x41_3).f1), .int .i64 ((rd_T46 (rd_L3 l0_2 x32_2) x41_3).f2), .int .i64 ((rd_T46 (rd_L3 l0_2 x32_2) x41_3).f3), .int .i64 ((rd_T46 (rd_L3 l0_2 x32_2) x41_3).f4), .int .i64 ((rd_T46 (rd_L3 l0_2 x32_2) x41_3).f5), .int .u64 ((rd_T46 (rd_L3 l0_2 x32_2) x41_3).f6), .int .i64 ((rd_T46 (rd_L3 l0_2 x32_2) x41_3).f7)]] rfl (by (try simp only [List.map_toArray, List.map_cons, List.map_nil]); first | done | rfl | (simp only [List.length_drop, List.length_take]; rfl)) ?_; (with_reducible refine (encode_May.calls k3 ((rd_T46 (rd_L3 l0_2 x32_2) x41_3).f0) ((rd_T46 (rd_L3 l0_2 x32_2) x41_3).f1) ((rd_T46 (rd_L3 l0_2 x32_2) x41_3).f2) ((rd_T46 (rd_L3 l0_2 x32_2) x41_3).f3) ((rd_T46 (rd_L3 l0_2 x32_2) x41_3).f4) ((rd_T46 (rd_L3 l0_2 x32_2) x41_3).f5) ((rd_T46 (rd_L3 l0_2 x32_2) x41_3).f6) ((rd_T46 (rd_L3 l0_2 x32_2) x41_3).f7) true _ A23.out).mono ?_); rintro e w35 ⟨rfl, hb⟩; refine ⟨_, rfl, ?_⟩; have n0_ := Aside0.mk (blk_below (g := gb314) (o := .cells #[.int .i64 a0_0, .int .i64 a0_1, .slice (some ad315) l0_2.length c0_2] 25 (0, 0)) (by (with_reducible repeat (first | refine blk_drewN ?_ _ | refine blk_drew ?_ | refine blk_alloc ?_ _)); refine blk_far ?_ NB314_318.out _; (with_reducible repeat (first | refine blk_drewN ?_ _ | refine blk_drew ?_ | refine blk_alloc ?_ _)); refine blk_far ?_ NB314_318.out _; (with_reducible repeat (first | refine blk_drewN ?_ _ | refine blk_drew ?_ | refine blk_alloc ?_ _)); refine blk_far ?_ NB314_318.out _; (with_reducible repeat (first | refine blk_drewN ?_ _ | refine blk_drew ?_ | refine blk_alloc ?_ _)); refine blk_far ?_ NB314_318.out _; (with_reducible repeat (first | refine blk_drewN ?_ _ | refine blk_drew ?_ | refine blk_alloc ?_ _)); refine blk_far ?_ NB314_318.out _; (with_reducible repeat (first | refine blk_drewN ?_ _ | refine blk_drew ?_ | refine blk_alloc ?_ _)); refine blk_far ?_ NB314_318.out _; (with_reducible repeat (first | refine blk_drewN ?_ _ | refine blk_drew ?_ | refine blk_alloc ?_ _)); refine blk_far ?_ NB314_318.out _; (with_reducible repeat (first | refine blk_drewN ?_ _ | refine blk_drew ?_ | refine blk_alloc ?_ _)); refine blk_far ?_ NB314_318.out _; (with_reducible repeat (first | refine blk_drewN ?_ _ | refine blk_drew ?_ | refine blk_alloc ?_ _)); exact BK314.out) hb); have n1_ := Aside0.mk (blk_below (g := gb318) (o := .cells #[.int .i64 ((rd_T46 (rd_L3 l0_2 x32_2) x41_3).f0), .int .i64 ((rd_T46 (rd_L3 l0_2 x32_2) x41_3).f1), .int .i64 ((rd_T46 (rd_L3 l0_2 x32_2) x41_3).f2), .int .i64 ((rd_T46 (rd_L3 l0_2 x32_2) x41_3).f3), .int .i64 ((rd_T46 (rd_L3 l0_2 x32_2) x41_3).f4), .int .i64 ((rd_T46 (rd_L3 l0_2 x32_2) x41_3).f5), .int .u64 ((rd_T46 (rd_L3 l0_2 x32_2) x41_3).f6), .int .i64 ((rd_T46 (rd_L3 l0_2 x32_2) x41_3).f7)] 46 (0, 0)) (by (with_reducible repeat (first | refine blk_drewN ?_ _ | refine blk_drew ?_ | refine blk_alloc ?_ _)); refine blk_put (cs := #[.int .i64 ((rd_T46 (rd_L3 l0_2 x32_2) x41_3).f0), .int .i64 ((rd_T46 (rd_L3 l0_2 x32_2) x41_3).f1), .int .i64 ((rd_T46 (rd_L3 l0_2 x32_2) x41_3).f2), .int .i64 ((rd_T46 (rd_L3 l0_2 x32_2) x41_3).f3), .int .i64 ((rd_T46 (rd_L3 l0_2 x32_2) x41_3).f4), .int .i64 ((rd_T46 (rd_L3 l0_2 x32_2) x41_3).f5), .int .u64 ((rd_T46 (rd_L3 l0_2 x32_2) x41_3).f6), .int .i64 0]) ?_ 7 _ rfl; (with_reducible repeat (first | refine blk_drewN ?_ _ | refine blk_drew ?_ | refine blk_alloc ?_ _)); refine blk_put (cs := #[.int .i64 ((rd_T46 (rd_L3 l0_2 x32_2) x41_3).f0), .int .i64 ((rd_T46 (rd_L3 l0_2 x32_2) x41_3).f1), .int .i64 ((rd_T46 (rd_L3 l0_2 x32_2) x41_3).f2), .int .i64 ((rd_T46 (rd_L3 l0_2 x32_2) x41_3).f3), .int .i64 ((rd_T46 (rd_L3 l0_2 x32_2) x41_3).f4), .int .i64 ((rd_T46 (rd_L3 l0_2 x32_2) x41_3).f5), .int .u64 0, .int .i64 0]) ?_ 6 _ rfl; (with_reducible repeat (first | refine blk_drewN ?_ _ | refine blk_drew ?_ | refine blk_alloc ?_ _)); refine blk_put (cs := #[.int .i64 ((rd_T46 (rd_L3 l0_2 x32_2) x41_3).f0), .int .i64 ((rd_T46 (rd_L3 l0_2 x32_2) x41_3).f1), .int .i64 ((rd_T46 (rd_L3 l0_2 x32_2) x41_3).f2), .int .i64 ((rd_T46 (rd_L3 l0_2 x32_2) x41_3).f3), .int .i64 ((rd_T46 (rd_L3 l0_2 x32_2) x41_3).f4), .int .i64 0, .int .u64 0, .int .i64 0]) ?_ 5 _ rfl; (with_reducible repeat (first | refine blk_drewN ?_ _ | refine blk_drew ?_ | refine blk_alloc ?_ _)); refine blk_put (cs := #[.int .i64 ((rd_T46 (rd_L3 l0_2 x32_2) x41_3).f0), .int .i64 ((rd_T46 (rd_L3 l0_2 x32_2) x41_3).f1), .int .i64 ((rd_T46 (rd_L3 l0_2 x32_2) x41_3).f2), .int .i64 ((rd_T46 (rd_L3 l0_2 x32_2) x41_3).f3), .int .i64 0, .int .i64 0, .int .u64 0, .int .i64 0]) ?_ 4 _ rfl; (with_reducible repeat (first | refine blk_drewN ?_ _ | refine blk_drew ?_ | refine blk_alloc ?_ _)); refine blk_put (cs := #[.int .i64 ((rd_T46 (rd_L3 l0_2 x32_2) x41_3).f0), .int .i64 ((rd_T46 (rd_L3 l0_2 x32_2) x41_3).f1), .int .i64 ((rd_T46 (rd_L3 l0_2 x32_2) x41_3).f2), .int .i64 0, .int .i64 0, .int .i64 0, .int .u64 0, .int .i64 0]) ?_ 3 _ rfl; (with_reducible repeat (first | refine blk_drewN ?_ _ | refine blk_drew ?_ | refine blk_alloc ?_ _)); refine blk_put (cs := #[.int .i64 ((rd_T46 (rd_L3 l0_2 x32_2) x41_3).f0), .int .i64 ((rd_T46 (rd_L3 l0_2 x32_2) x41_3).f1), .int .i64 0, .int .i64 0, .int .i64 0, .int .i64 0, .int .u64 0, .int .i64 0]) ?_ 2 _ rfl; (with_reducible repeat (first | refine blk_drewN ?_ _ | refine blk_drew ?_ | refine blk_alloc ?_ _)); refine blk_put (cs := #[.int .i64 ((rd_T46 (rd_L3 l0_2 x32_2) x41_3).f0), .int .i64 0, .int .i64 0, .int .i64 0, .int .i64 0, .int .i64 0, .int .u64 0, .int .i64 0]) ?_ 1 _ rfl; (with_reducible repeat (first | refine blk_drewN ?_ _ | refine blk_drew ?_ | refine blk_alloc ?_ _)); refine blk_put (cs := #[.int .i64 0, .int .i64 0, .int .i64 0, .int .i64 0, .int .i64 0, .int .i64 0, .int .u64 0, .int .i64 0]) ?_ 0 _ rfl; (with_reducible repeat (first | refine blk_drewN ?_ _ | refine blk_drew ?_ | refine blk_alloc ?_ _)); exact BK318.out) hb); have n2_ := Aside0.mk (below_step (by repeat (first | (with_reducible first | exact HB.out | apply below_alloc | apply pw_below_drewN | apply below_drew1 | refine below_set ?_ GE314.out | refine below_set ?_ GE318.out) | exact HB.out)) hb); clear BK314; clear BK318; clear HB; have BK314 := n0_; have BK318 := n1_; have HB := n2_; clear n0_ n1_ n2_; (try clear hb); (try clear hb2); (try clear hk); (try clear hi); have hcz36_0 : w35.cell? ⟨gb318, 0, none⟩ = some (.int .i64 ((rd_T46 (rd_L3 l0_2 x32_2) x41_3).f0)) := (blk_cell BK318.out 0).trans rfl; have hcz36_1 : w35.cell? ⟨gb318, 1, none⟩ = some (.int .i64 ((rd_T46 (rd_L3 l0_2 x32_2) x41_3).f1)) := (blk_cell BK318.out 1).trans rfl; have hcz36_2 : w35.cell? ⟨gb318, 2, none⟩ = some (.int .i64 ((rd_T46 (rd_L3 l0_2 x32_2) x41_3).f2)) := (blk_cell BK318.out 2).trans rfl; have hcz36_3 : w35.cell? ⟨gb318, 3, none⟩ = some (.int .i64 ((rd_T46 (rd_L3 l0_2 x32_2) x41_3).f3)) := (blk_cell BK318.out 3).trans rfl; have hcz36_4 : w35.cell? ⟨gb318, 4, none⟩ = some (.int .i64 ((rd_T46 (rd_L3 l0_2 x32_2) x41_3).f4)) := (blk_cell BK318.out 4).trans rfl; have hcz36_5 : w35.cell? ⟨gb318, 5, none⟩ = some (.int .i64 ((rd_T46 (rd_L3 l0_2 x32_2) x41_3).f5)) := (blk_cell BK318.out 5).trans rfl; have hcz36_6 : w35.cell? ⟨gb318, 6, none⟩ = some (.int .u64 ((rd_T46 (rd_L3 l0_2 x32_2) x41_3).f6)) := (blk_cell BK318.out 6).trans rfl; have hcz36_7 : w35.cell? ⟨gb318, 7, none⟩ = some (.int .i64 ((rd_T46 (rd_L3 l0_2 x32_2) x41_3).f7)) := (blk_cell BK318.out 7).trans rfl; have hfz36_0 := blk_frozen BK318.out 0; have hfz36_1 := blk_frozen BK318.out 1; have hfz36_2 := blk_frozen BK318.out 2; have hfz36_3 := blk_frozen BK318.out 3; have hfz36_4 := blk_frozen BK318.out 4; have hfz36_5 := blk_frozen BK318.out 5; have hfz36_6 := blk_frozen BK318.out 6; have hfz36_7 := blk_frozen BK318.out 7; have hcz37_0 : w35.cell? ⟨gb314, 0, none⟩ = some (.int .i64 a0_0) := (blk_cell BK314.out 0).trans rfl; have hcz37_1 : w35.cell? ⟨gb314, 1, none⟩ = some (.int .i64 a0_1) := (blk_cell BK314.out 1).trans rfl; have hcz37_2 : w35.cell? ⟨gb314, 2, none⟩ = some (.slice (some ad315) l0_2.length c0_2) := (blk_cell BK314.out 2).trans rfl; have hfz37_0 := blk_frozen BK314.out 0; have hfz37_1 := blk_frozen BK314.out 1; have hfz37_2 := blk_frozen BK314.out 2))
                                      go_roundg k3
                                      case measure => have := HJ1.out; have := HK2.out; have := HK3.out; omega
                                      case rel => exact ⟨(wrap64 (x41_3 + 1)), (by first | rfl | (simp; done) | (simp [*]; done)), H', ⟨by have := HJ1.out; have := HK2.out; have := HK3.out; omega⟩, ⟨by (with_reducible repeat (first | refine blk_drewN ?_ _ | refine blk_drew ?_ | refine blk_alloc ?_ _)); exact BK314.out⟩, ⟨by repeat (first | (with_reducible first | exact HB.out | apply below_alloc | apply pw_below_drewN | apply below_drew1 | refine below_set ?_ GE314.out | refine below_set ?_ GE318.out) | exact HB.out)⟩⟩
                                  · replace c24 := Bool.eq_false_iff.mpr c24
                                    subst c24
                                    have H1 : (some false) = some r := by rw [if_neg (show ¬ (false = true) by decide)] at H; exact H
                                    clear H
                                    have H := H1
                                    clear H1
                                    obtain rfl := Option.some.inj H
                                    have p317 : 0 ≤ (x41_3 : Int) := of_decide_eq_true (by first | (with_reducible assumption) | assumption)
                                    have q317 : x41_3 < ((rd_L3 l0_2 x32_2).length : Int) := of_decide_eq_true (by first | (with_reducible assumption) | assumption)
                                    obtain ⟨ad317, e317, hx317_0, hx317_1, hx317_2, hx317_3, hx317_4, hx317_5, hx317_6, hx317_7⟩ := at_T46 HR315_0.out x41_3 p317 q317
                                    cases e317
                                    replace hx317_0 := (HB.out.cell (World.block_lt_of_cell? w _ hx317_0)).trans hx317_0
                                    replace hx317_1 := (HB.out.cell (World.block_lt_of_cell? w _ hx317_1)).trans hx317_1
                                    replace hx317_2 := (HB.out.cell (World.block_lt_of_cell? w _ hx317_2)).trans hx317_2
                                    replace hx317_3 := (HB.out.cell (World.block_lt_of_cell? w _ hx317_3)).trans hx317_3
                                    replace hx317_4 := (HB.out.cell (World.block_lt_of_cell? w _ hx317_4)).trans hx317_4
                                    replace hx317_5 := (HB.out.cell (World.block_lt_of_cell? w _ hx317_5)).trans hx317_5
                                    replace hx317_6 := (HB.out.cell (World.block_lt_of_cell? w _ hx317_6)).trans hx317_6
                                    replace hx317_7 := (HB.out.cell (World.block_lt_of_cell? w _ hx317_7)).trans hx317_7
                                    replace p317 := eq_true p317
                                    replace q317 := eq_true q317
                                    go_wp2_with (first | ((with_reducible refine gate_dst (N := 6) rfl ?_); (try (refine gate_guard (by rfl) ?_; dsimp only)); refine box_event ?hg (N := 6) ?hd (cs := #[.int .i64 0, .int .i64 0, .int .i64 0, .int .i64 0, .int .i64 0, .int .i64 0, .int .u64 0, .int .i64 0]) (t := 46) ?hr ?_; (case hd => rfl); (case hg => rfl); (case hr => first | (go_simp; done) | (go_simp; rfl)); intro gb318 hg w38 hbox hb; have n0_ := Aside0.mk (blk_below (g := gb314) (o := .cells #[.int .i64 a0_0, .int .i64 a0_1, .slice (some ad315) l0_2.length c0_2] 25 (0, 0)) (by (with_reducible repeat (first | refine blk_drewN ?_ _ | refine blk_drew ?_ | refine blk_alloc ?_ _)); exact BK314.out) hb); have n1_ := Aside0.mk (below_step (by repeat (first | (with_reducible first | exact HB.out | apply below_alloc | apply pw_below_drewN | apply below_drew1 | refine below_set ?_ GE314.out) | exact HB.out)) hb); have n2_ := Aside0.mk (hbox); have n3_ := Aside0.mk ((by rw [hg]; exact (below_size (by repeat (first | (with_reducible first | exact HB.out | apply below_alloc | apply pw_below_drewN | apply below_drew1 | refine below_set ?_ GE314.out) | exact HB.out))) : w.heap.size ≤ gb318)); have n4_ := Aside0.mk ((by rw [hg]; exact (below_size (by repeat (first | (with_reducible first | exact HB.out | apply below_alloc | apply pw_below_drewN | apply below_drew1 | refine below_set ?_ GE314.out) | exact HB.out))) : w.heap.size ≤ gb318)); have n5_ := Aside0.mk ((by rw [hg]; exact Nat.ne_of_lt (blk_lt (g := gb314) (o := .cells #[.int .i64 a0_0, .int .i64 a0_1, .slice (some ad315) l0_2.length c0_2] 25 (0, 0)) (by (with_reducible repeat (first | refine blk_drewN ?_ _ | refine blk_drew ?_ | refine blk_alloc ?_ _)); exact BK314.out)) : gb314 ≠ gb318)); have n6_ := Aside0.mk ((by rw [hg]; exact Nat.ne_of_gt (blk_lt (g := gb314) (o := .cells #[.int .i64 a0_0, .int .i64 a0_1, .slice (some ad315) l0_2.length c0_2] 25 (0, 0)) (by (with_reducible repeat (first | refine blk_drewN ?_ _ | refine blk_drew ?_ | refine blk_alloc ?_ _)); exact BK314.out)) : gb318 ≠ gb314)); clear BK314; clear HB; have BK314 := n0_; have HB := n1_; have BK318 := n2_; have GW318 := n3_; have GE318 := n4_; have NB314_318 := n5_; have NB318_314 := n6_; clear n0_ n1_ n2_ n3_ n4_ n5_ n6_; clear hb hbox hg; have hnb39 := NB318_314.out; have hnc39 := NB314_318.out; have hcz40_0 : w38.cell? ⟨gb318, 0, none⟩ = some (.int .i64 0) := (blk_cell BK318.out 0).trans rfl; have hcz40_1 : w38.cell? ⟨gb318, 1, none⟩ = some (.int .i64 0) := (blk_cell BK318.out 1).trans rfl; have hcz40_2 : w38.cell? ⟨gb318, 2, none⟩ = some (.int .i64 0) := (blk_cell BK318.out 2).trans rfl; have hcz40_3 : w38.cell? ⟨gb318, 3, none⟩ = some (.int .i64 0) := (blk_cell BK318.out 3).trans rfl; have hcz40_4 : w38.cell? ⟨gb318, 4, none⟩ = some (.int .i64 0) := (blk_cell BK318.out 4).trans rfl; have hcz40_5 : w38.cell? ⟨gb318, 5, none⟩ = some (.int .i64 0) := (blk_cell BK318.out 5).trans rfl; have hcz40_6 : w38.cell? ⟨gb318, 6, none⟩ = some (.int .u64 0) := (blk_cell BK318.out 6).trans rfl; have hcz40_7 : w38.cell? ⟨gb318, 7, none⟩ = some (.int .i64 0) := (blk_cell BK318.out 7).trans rfl; have hfz40_0 := blk_frozen BK318.out 0; have hfz40_1 := blk_frozen BK318.out 1; have hfz40_2 := blk_frozen BK318.out 2; have hfz40_3 := blk_frozen BK318.out 3; have hfz40_4 := blk_frozen BK318.out 4; have hfz40_5 := blk_frozen BK318.out 5; have hfz40_6 := blk_frozen BK318.out 6; have hfz40_7 := blk_frozen BK318.out 7) | ((with_reducible refine gate_callee (f := 20) rfl ?_); refine goesL_ (some 69) rfl rfl Try.func20 (by kernel_rfl) rfl #[.agg #[.int .i64 ((rd_T46 (rd_L3 l0_2 x32_2) x41_3).f0), .int .i64 ((rd_T46 (rd_L3 l0_2 x32_2) x41_3).f1), .int .i64 ((rd_T46 (rd_L3 l0_2 x32_2) x41_3).f2), .int .i64 ((rd_T46 (rd_L3 l0_2 x32_2) x41_3).f3), .int .i64 ((rd_T46 (rd_L3 l0_2 x32_2) x41_3).f4), .int .i64 ((rd_T46 (rd_L3 l0_2 x32_2) x41_3).f5), .int .u64 ((rd_T46 (rd_L3 l0_2 x32_2) x41_3).f6), .int .i64 ((rd_T46 (rd_L3 l0_2 x32_2) x41_3).f7)]] rfl (by (try simp only [List.map_toArray, List.map_cons, List.map_nil]); first | done | rfl | (simp only [List.length_drop, List.length_take]; rfl)) ?_; (with_reducible refine (encode_May.calls k3 ((rd_T46 (rd_L3 l0_2 x32_2) x41_3).f0) ((rd_T46 (rd_L3 l0_2 x32_2) x41_3).f1) ((rd_T46 (rd_L3 l0_2 x32_2) x41_3).f2) ((rd_T46 (rd_L3 l0_2 x32_2) x41_3).f3) ((rd_T46 (rd_L3 l0_2 x32_2) x41_3).f4) ((rd_T46 (rd_L3 l0_2 x32_2) x41_3).f5) ((rd_T46 (rd_L3 l0_2 x32_2) x41_3).f6) ((rd_T46 (rd_L3 l0_2 x32_2) x41_3).f7) false _ A23.out).mono ?_); rintro e w41 ⟨rfl, hb⟩; refine ⟨_, rfl, ?_⟩; have n0_ := Aside0.mk (blk_below (g := gb314) (o := .cells #[.int .i64 a0_0, .int .i64 a0_1, .slice (some ad315) l0_2.length c0_2] 25 (0, 0)) (by (with_reducible repeat (first | refine blk_drewN ?_ _ | refine blk_drew ?_ | refine blk_alloc ?_ _)); refine blk_far ?_ NB314_318.out _; (with_reducible repeat (first | refine blk_drewN ?_ _ | refine blk_drew ?_ | refine blk_alloc ?_ _)); refine blk_far ?_ NB314_318.out _; (with_reducible repeat (first | refine blk_drewN ?_ _ | refine blk_drew ?_ | refine blk_alloc ?_ _)); refine blk_far ?_ NB314_318.out _; (with_reducible repeat (first | refine blk_drewN ?_ _ | refine blk_drew ?_ | refine blk_alloc ?_ _)); refine blk_far ?_ NB314_318.out _; (with_reducible repeat (first | refine blk_drewN ?_ _ | refine blk_drew ?_ | refine blk_alloc ?_ _)); refine blk_far ?_ NB314_318.out _; (with_reducible repeat (first | refine blk_drewN ?_ _ | refine blk_drew ?_ | refine blk_alloc ?_ _)); refine blk_far ?_ NB314_318.out _; (with_reducible repeat (first | refine blk_drewN ?_ _ | refine blk_drew ?_ | refine blk_alloc ?_ _)); refine blk_far ?_ NB314_318.out _; (with_reducible repeat (first | refine blk_drewN ?_ _ | refine blk_drew ?_ | refine blk_alloc ?_ _)); refine blk_far ?_ NB314_318.out _; (with_reducible repeat (first | refine blk_drewN ?_ _ | refine blk_drew ?_ | refine blk_alloc ?_ _)); exact BK314.out) hb); have n1_ := Aside0.mk (blk_below (g := gb318) (o := .cells #[.int .i64 ((rd_T46 (rd_L3 l0_2 x32_2) x41_3).f0), .int .i64 ((rd_T46 (rd_L3 l0_2 x32_2) x41_3).f1), .int .i64 ((rd_T46 (rd_L3 l0_2 x32_2) x41_3).f2), .int .i64 ((rd_T46 (rd_L3 l0_2 x32_2) x41_3).f3), .int .i64 ((rd_T46 (rd_L3 l0_2 x32_2) x41_3).f4), .int .i64 ((rd_T46 (rd_L3 l0_2 x32_2) x41_3).f5), .int .u64 ((rd_T46 (rd_L3 l0_2 x32_2) x41_3).f6), .int .i64 ((rd_T46 (rd_L3 l0_2 x32_2) x41_3).f7)] 46 (0, 0)) (by (with_reducible repeat (first | refine blk_drewN ?_ _ | refine blk_drew ?_ | refine blk_alloc ?_ _)); refine blk_put (cs := #[.int .i64 ((rd_T46 (rd_L3 l0_2 x32_2) x41_3).f0), .int .i64 ((rd_T46 (rd_L3 l0_2 x32_2) x41_3).f1), .int .i64 ((rd_T46 (rd_L3 l0_2 x32_2) x41_3).f2), .int .i64 ((rd_T46 (rd_L3 l0_2 x32_2) x41_3).f3), .int .i64 ((rd_T46 (rd_L3 l0_2 x32_2) x41_3).f4), .int .i64 ((rd_T46 (rd_L3 l0_2 x32_2) x41_3).f5), .int .u64 ((rd_T46 (rd_L3 l0_2 x32_2) x41_3).f6), .int .i64 0]) ?_ 7 _ rfl; (with_reducible repeat (first | refine blk_drewN ?_ _ | refine blk_drew ?_ | refine blk_alloc ?_ _)); refine blk_put (cs := #[.int .i64 ((rd_T46 (rd_L3 l0_2 x32_2) x41_3).f0), .int .i64 ((rd_T46 (rd_L3 l0_2 x32_2) x41_3).f1), .int .i64 ((rd_T46 (rd_L3 l0_2 x32_2) x41_3).f2), .int .i64 ((rd_T46 (rd_L3 l0_2 x32_2) x41_3).f3), .int .i64 ((rd_T46 (rd_L3 l0_2 x32_2) x41_3).f4), .int .i64 ((rd_T46 (rd_L3 l0_2 x32_2) x41_3).f5), .int .u64 0, .int .i64 0]) ?_ 6 _ rfl; (with_reducible repeat (first | refine blk_drewN ?_ _ | refine blk_drew ?_ | refine blk_alloc ?_ _)); refine blk_put (cs := #[.int .i64 ((rd_T46 (rd_L3 l0_2 x32_2) x41_3).f0), .int .i64 ((rd_T46 (rd_L3 l0_2 x32_2) x41_3).f1), .int .i64 ((rd_T46 (rd_L3 l0_2 x32_2) x41_3).f2), .int .i64 ((rd_T46 (rd_L3 l0_2 x32_2) x41_3).f3), .int .i64 ((rd_T46 (rd_L3 l0_2 x32_2) x41_3).f4), .int .i64 0, .int .u64 0, .int .i64 0]) ?_ 5 _ rfl; (with_reducible repeat (first | refine blk_drewN ?_ _ | refine blk_drew ?_ | refine blk_alloc ?_ _)); refine blk_put (cs := #[.int .i64 ((rd_T46 (rd_L3 l0_2 x32_2) x41_3).f0), .int .i64 ((rd_T46 (rd_L3 l0_2 x32_2) x41_3).f1), .int .i64 ((rd_T46 (rd_L3 l0_2 x32_2) x41_3).f2), .int .i64 ((rd_T46 (rd_L3 l0_2 x32_2) x41_3).f3), .int .i64 0, .int .i64 0, .int .u64 0, .int .i64 0]) ?_ 4 _ rfl; (with_reducible repeat (first | refine blk_drewN ?_ _ | refine blk_drew ?_ | refine blk_alloc ?_ _)); refine blk_put (cs := #[.int .i64 ((rd_T46 (rd_L3 l0_2 x32_2) x41_3).f0), .int .i64 ((rd_T46 (rd_L3 l0_2 x32_2) x41_3).f1), .int .i64 ((rd_T46 (rd_L3 l0_2 x32_2) x41_3).f2), .int .i64 0, .int .i64 0, .int .i64 0, .int .u64 0, .int .i64 0]) ?_ 3 _ rfl; (with_reducible repeat (first | refine blk_drewN ?_ _ | refine blk_drew ?_ | refine blk_alloc ?_ _)); refine blk_put (cs := #[.int .i64 ((rd_T46 (rd_L3 l0_2 x32_2) x41_3).f0), .int .i64 ((rd_T46 (rd_L3 l0_2 x32_2) x41_3).f1), .int .i64 0, .int .i64 0, .int .i64 0, .int .i64 0, .int .u64 0, .int .i64 0]) ?_ 2 _ rfl; (with_reducible repeat (first | refine blk_drewN ?_ _ | refine blk_drew ?_ | refine blk_alloc ?_ _)); refine blk_put (cs := #[.int .i64 ((rd_T46 (rd_L3 l0_2 x32_2) x41_3).f0), .int .i64 0, .int .i64 0, .int .i64 0, .int .i64 0, .int .i64 0, .int .u64 0, .int .i64 0]) ?_ 1 _ rfl; (with_reducible repeat (first | refine blk_drewN ?_ _ | refine blk_drew ?_ | refine blk_alloc ?_ _)); refine blk_put (cs := #[.int .i64 0, .int .i64 0, .int .i64 0, .int .i64 0, .int .i64 0, .int .i64 0, .int .u64 0, .int .i64 0]) ?_ 0 _ rfl; (with_reducible repeat (first | refine blk_drewN ?_ _ | refine blk_drew ?_ | refine blk_alloc ?_ _)); exact BK318.out) hb); have n2_ := Aside0.mk (below_step (by repeat (first | (with_reducible first | exact HB.out | apply below_alloc | apply pw_below_drewN | apply below_drew1 | refine below_set ?_ GE314.out | refine below_set ?_ GE318.out) | exact HB.out)) hb); clear BK314; clear BK318; clear HB; have BK314 := n0_; have BK318 := n1_; have HB := n2_; clear n0_ n1_ n2_; (try clear hb); (try clear hb2); (try clear hk); (try clear hi)))
                                    go_ret
                                    exact ⟨by first | rfl | (simp [errW_none, errW_some] <;> rfl) | (simp [*, errW_none, errW_some] <;> rfl), by repeat (first | (with_reducible first | exact HB.out | apply below_alloc | apply pw_below_drewN | apply below_drew1 | refine below_set ?_ GE314.out | refine below_set ?_ GE318.out) | exact HB.out)⟩
                              · have c22 : ¬ ((rd_T46 (rd_L3 l0_2 x32_2) x41_3).f0) = 4 := fun h_ => hor1_ (Or.inl h_)
                                have c42 : ¬ ((rd_T46 (rd_L3 l0_2 x32_2) x41_3).f0) = 5 := fun h_ => hor1_ (Or.inr (Or.inl h_))
                                have c62 : ¬ ((rd_T46 (rd_L3 l0_2 x32_2) x41_3).f0) = 8 := fun h_ => hor1_ (Or.inr (Or.inr (Or.inl h_)))
                                have c82 : ¬ ((rd_T46 (rd_L3 l0_2 x32_2) x41_3).f0) = 9 := fun h_ => hor1_ (Or.inr (Or.inr (Or.inr (h_))))
                                rw [if_neg c22] at H
                                have c22b0 : (((rd_T46 (rd_L3 l0_2 x32_2) x41_3).f0) == 4) = false := beq_eq_false_iff_ne.mpr c22
                                have c22b1 : (((rd_T46 (rd_L3 l0_2 x32_2) x41_3).f0) != 4) = true := bne_iff_ne.mpr c22
                                rw [if_neg c42] at H
                                have c42b0 : (((rd_T46 (rd_L3 l0_2 x32_2) x41_3).f0) == 5) = false := beq_eq_false_iff_ne.mpr c42
                                have c42b1 : (((rd_T46 (rd_L3 l0_2 x32_2) x41_3).f0) != 5) = true := bne_iff_ne.mpr c42
                                rw [if_neg c62] at H
                                have c62b0 : (((rd_T46 (rd_L3 l0_2 x32_2) x41_3).f0) == 8) = false := beq_eq_false_iff_ne.mpr c62
                                have c62b1 : (((rd_T46 (rd_L3 l0_2 x32_2) x41_3).f0) != 8) = true := bne_iff_ne.mpr c62
                                rw [if_neg c82] at H
                                have c82b0 : (((rd_T46 (rd_L3 l0_2 x32_2) x41_3).f0) == 9) = false := beq_eq_false_iff_ne.mpr c82
                                have c82b1 : (((rd_T46 (rd_L3 l0_2 x32_2) x41_3).f0) != 9) = true := bne_iff_ne.mpr c82
                                replace H := Option.bind_eq_some_iff.mp H
                                obtain ⟨t323, A1020, H⟩ := H
                                replace H : (if t323 = true then (if ((rd_T46 (rd_L3 l0_2 x32_2) x41_3).f0) = 10 then (if ((rd_T46 (rd_L3 l0_2 x32_2) x41_3).f6) ≥ (IntKind.u64.wrap (a0_1)) then (some false) else (tautochronelaw21_may.l1 k3 l0_2 (l0_2.length : Int) x32_2 (rd_L3 l0_2 x32_2) ((rd_L3 l0_2 x32_2).length : Int) (wrap64 (x41_3 + 1)) a0_0 a0_1 l0_2)) else (tautochronelaw21_may.l1 k3 l0_2 (l0_2.length : Int) x32_2 (rd_L3 l0_2 x32_2) ((rd_L3 l0_2 x32_2).length : Int) (wrap64 (x41_3 + 1)) a0_0 a0_1 l0_2)) else (some false)) = some r := H
                                have A102 := Aside0.mk A1020
                                clear A1020
                                by_cases c103 : t323 = true
                                · subst c103
                                  have H1 : (if ((rd_T46 (rd_L3 l0_2 x32_2) x41_3).f0) = 10 then (if ((rd_T46 (rd_L3 l0_2 x32_2) x41_3).f6) ≥ (IntKind.u64.wrap (a0_1)) then (some false) else (tautochronelaw21_may.l1 k3 l0_2 (l0_2.length : Int) x32_2 (rd_L3 l0_2 x32_2) ((rd_L3 l0_2 x32_2).length : Int) (wrap64 (x41_3 + 1)) a0_0 a0_1 l0_2)) else (tautochronelaw21_may.l1 k3 l0_2 (l0_2.length : Int) x32_2 (rd_L3 l0_2 x32_2) ((rd_L3 l0_2 x32_2).length : Int) (wrap64 (x41_3 + 1)) a0_0 a0_1 l0_2)) = some r := by rw [if_pos rfl] at H; exact H
                                  clear H
                                  have H := H1
                                  clear H1
                                  by_cases c104 : ((rd_T46 (rd_L3 l0_2 x32_2) x41_3).f0) = 10
                                  · rw [if_pos c104] at H
                                    have c104b0 : (((rd_T46 (rd_L3 l0_2 x32_2) x41_3).f0) == 10) = true := beq_iff_eq.mpr c104
                                    have c104b1 : (((rd_T46 (rd_L3 l0_2 x32_2) x41_3).f0) != 10) = false := bne_eq_false_iff_eq.mpr c104
                                    clear c104
                                    by_cases c105 : ((rd_T46 (rd_L3 l0_2 x32_2) x41_3).f6) ≥ (IntKind.u64.wrap (a0_1))
                                    · rw [if_pos c105] at H
                                      have c105b0 : decide ((IntKind.u64.wrap (a0_1)) ≤ ((rd_T46 (rd_L3 l0_2 x32_2) x41_3).f6)) = true := decide_eq_true c105
                                      clear c105
                                      obtain rfl := Option.some.inj H
                                      have p317 : 0 ≤ (x41_3 : Int) := of_decide_eq_true (by first | (with_reducible assumption) | assumption)
                                      have q317 : x41_3 < ((rd_L3 l0_2 x32_2).length : Int) := of_decide_eq_true (by first | (with_reducible assumption) | assumption)
                                      obtain ⟨ad317, e317, hx317_0, hx317_1, hx317_2, hx317_3, hx317_4, hx317_5, hx317_6, hx317_7⟩ := at_T46 HR315_0.out x41_3 p317 q317
                                      cases e317
                                      replace hx317_0 := (HB.out.cell (World.block_lt_of_cell? w _ hx317_0)).trans hx317_0
                                      replace hx317_1 := (HB.out.cell (World.block_lt_of_cell? w _ hx317_1)).trans hx317_1
                                      replace hx317_2 := (HB.out.cell (World.block_lt_of_cell? w _ hx317_2)).trans hx317_2
                                      replace hx317_3 := (HB.out.cell (World.block_lt_of_cell? w _ hx317_3)).trans hx317_3
                                      replace hx317_4 := (HB.out.cell (World.block_lt_of_cell? w _ hx317_4)).trans hx317_4
                                      replace hx317_5 := (HB.out.cell (World.block_lt_of_cell? w _ hx317_5)).trans hx317_5
                                      replace hx317_6 := (HB.out.cell (World.block_lt_of_cell? w _ hx317_6)).trans hx317_6
                                      replace hx317_7 := (HB.out.cell (World.block_lt_of_cell? w _ hx317_7)).trans hx317_7
                                      replace p317 := eq_true p317
                                      replace q317 := eq_true q317
                                      go_wp2_with (first | ((with_reducible refine gate_dst (N := 6) rfl ?_); (try (refine gate_guard (by rfl) ?_; dsimp only)); refine box_event ?hg (N := 6) ?hd (cs := #[.int .i64 0, .int .i64 0, .int .i64 0, .int .i64 0, .int .i64 0, .int .i64 0, .int .u64 0, .int .i64 0]) (t := 46) ?hr ?_; (case hd => rfl); (case hg => rfl); (case hr => first | (go_simp; done) | (go_simp; rfl)); intro gb318 hg w106 hbox hb; have n0_ := Aside0.mk (blk_below (g := gb314) (o := .cells #[.int .i64 a0_0, .int .i64 a0_1, .slice (some ad315) l0_2.length c0_2] 25 (0, 0)) (by (with_reducible repeat (first | refine blk_drewN ?_ _ | refine blk_drew ?_ | refine blk_alloc ?_ _)); exact BK314.out) hb); have n1_ := Aside0.mk (below_step (by repeat (first | (with_reducible first | exact HB.out | apply below_alloc | apply pw_below_drewN | apply below_drew1 | refine below_set ?_ GE314.out) | exact HB.out)) hb); have n2_ := Aside0.mk (hbox); have n3_ := Aside0.mk ((by rw [hg]; exact (below_size (by repeat (first | (with_reducible first | exact HB.out | apply below_alloc | apply pw_below_drewN | apply below_drew1 | refine below_set ?_ GE314.out) | exact HB.out))) : w.heap.size ≤ gb318)); have n4_ := Aside0.mk ((by rw [hg]; exact (below_size (by repeat (first | (with_reducible first | exact HB.out | apply below_alloc | apply pw_below_drewN | apply below_drew1 | refine below_set ?_ GE314.out) | exact HB.out))) : w.heap.size ≤ gb318)); have n5_ := Aside0.mk ((by rw [hg]; exact Nat.ne_of_lt (blk_lt (g := gb314) (o := .cells #[.int .i64 a0_0, .int .i64 a0_1, .slice (some ad315) l0_2.length c0_2] 25 (0, 0)) (by (with_reducible repeat (first | refine blk_drewN ?_ _ | refine blk_drew ?_ | refine blk_alloc ?_ _)); exact BK314.out)) : gb314 ≠ gb318)); have n6_ := Aside0.mk ((by rw [hg]; exact Nat.ne_of_gt (blk_lt (g := gb314) (o := .cells #[.int .i64 a0_0, .int .i64 a0_1, .slice (some ad315) l0_2.length c0_2] 25 (0, 0)) (by (with_reducible repeat (first | refine blk_drewN ?_ _ | refine blk_drew ?_ | refine blk_alloc ?_ _)); exact BK314.out)) : gb318 ≠ gb314)); clear BK314; clear HB; have BK314 := n0_; have HB := n1_; have BK318 := n2_; have GW318 := n3_; have GE318 := n4_; have NB314_318 := n5_; have NB318_314 := n6_; clear n0_ n1_ n2_ n3_ n4_ n5_ n6_; clear hb hbox hg; have hnb107 := NB318_314.out; have hnc107 := NB314_318.out; have hcz108_0 : w106.cell? ⟨gb318, 0, none⟩ = some (.int .i64 0) := (blk_cell BK318.out 0).trans rfl; have hcz108_1 : w106.cell? ⟨gb318, 1, none⟩ = some (.int .i64 0) := (blk_cell BK318.out 1).trans rfl; have hcz108_2 : w106.cell? ⟨gb318, 2, none⟩ = some (.int .i64 0) := (blk_cell BK318.out 2).trans rfl; have hcz108_3 : w106.cell? ⟨gb318, 3, none⟩ = some (.int .i64 0) := (blk_cell BK318.out 3).trans rfl; have hcz108_4 : w106.cell? ⟨gb318, 4, none⟩ = some (.int .i64 0) := (blk_cell BK318.out 4).trans rfl; have hcz108_5 : w106.cell? ⟨gb318, 5, none⟩ = some (.int .i64 0) := (blk_cell BK318.out 5).trans rfl; have hcz108_6 : w106.cell? ⟨gb318, 6, none⟩ = some (.int .u64 0) := (blk_cell BK318.out 6).trans rfl; have hcz108_7 : w106.cell? ⟨gb318, 7, none⟩ = some (.int .i64 0) := (blk_cell BK318.out 7).trans rfl; have hfz108_0 := blk_frozen BK318.out 0; have hfz108_1 := blk_frozen BK318.out 1; have hfz108_2 := blk_frozen BK318.out 2; have hfz108_3 := blk_frozen BK318.out 3; have hfz108_4 := blk_frozen BK318.out 4; have hfz108_5 := blk_frozen BK318.out 5; have hfz108_6 := blk_frozen BK318.out 6; have hfz108_7 := blk_frozen BK318.out 7) | ((with_reducible refine gate_callee (f := 20) rfl ?_); refine goesL_ (some 69) rfl rfl Try.func20 (by kernel_rfl) rfl #[.agg #[.int .i64 ((rd_T46 (rd_L3 l0_2 x32_2) x41_3).f0), .int .i64 ((rd_T46 (rd_L3 l0_2 x32_2) x41_3).f1), .int .i64 ((rd_T46 (rd_L3 l0_2 x32_2) x41_3).f2), .int .i64 ((rd_T46 (rd_L3 l0_2 x32_2) x41_3).f3), .int .i64 ((rd_T46 (rd_L3 l0_2 x32_2) x41_3).f4), .int .i64 ((rd_T46 (rd_L3 l0_2 x32_2) x41_3).f5), .int .u64 ((rd_T46 (rd_L3 l0_2 x32_2) x41_3).f6), .int .i64 ((rd_T46 (rd_L3 l0_2 x32_2) x41_3).f7)]] rfl (by (try simp only [List.map_toArray, List.map_cons, List.map_nil]); first | done | rfl | (simp only [List.length_drop, List.length_take]; rfl)) ?_; (with_reducible refine (encode_May.calls k3 ((rd_T46 (rd_L3 l0_2 x32_2) x41_3).f0) ((rd_T46 (rd_L3 l0_2 x32_2) x41_3).f1) ((rd_T46 (rd_L3 l0_2 x32_2) x41_3).f2) ((rd_T46 (rd_L3 l0_2 x32_2) x41_3).f3) ((rd_T46 (rd_L3 l0_2 x32_2) x41_3).f4) ((rd_T46 (rd_L3 l0_2 x32_2) x41_3).f5) ((rd_T46 (rd_L3 l0_2 x32_2) x41_3).f6) ((rd_T46 (rd_L3 l0_2 x32_2) x41_3).f7) true _ A102.out).mono ?_); rintro e w109 ⟨rfl, hb⟩; refine ⟨_, rfl, ?_⟩; have n0_ := Aside0.mk (blk_below (g := gb314) (o := .cells #[.int .i64 a0_0, .int .i64 a0_1, .slice (some ad315) l0_2.length c0_2] 25 (0, 0)) (by (with_reducible repeat (first | refine blk_drewN ?_ _ | refine blk_drew ?_ | refine blk_alloc ?_ _)); refine blk_far ?_ NB314_318.out _; (with_reducible repeat (first | refine blk_drewN ?_ _ | refine blk_drew ?_ | refine blk_alloc ?_ _)); refine blk_far ?_ NB314_318.out _; (with_reducible repeat (first | refine blk_drewN ?_ _ | refine blk_drew ?_ | refine blk_alloc ?_ _)); refine blk_far ?_ NB314_318.out _; (with_reducible repeat (first | refine blk_drewN ?_ _ | refine blk_drew ?_ | refine blk_alloc ?_ _)); refine blk_far ?_ NB314_318.out _; (with_reducible repeat (first | refine blk_drewN ?_ _ | refine blk_drew ?_ | refine blk_alloc ?_ _)); refine blk_far ?_ NB314_318.out _; (with_reducible repeat (first | refine blk_drewN ?_ _ | refine blk_drew ?_ | refine blk_alloc ?_ _)); refine blk_far ?_ NB314_318.out _; (with_reducible repeat (first | refine blk_drewN ?_ _ | refine blk_drew ?_ | refine blk_alloc ?_ _)); refine blk_far ?_ NB314_318.out _; (with_reducible repeat (first | refine blk_drewN ?_ _ | refine blk_drew ?_ | refine blk_alloc ?_ _)); refine blk_far ?_ NB314_318.out _; (with_reducible repeat (first | refine blk_drewN ?_ _ | refine blk_drew ?_ | refine blk_alloc ?_ _)); exact BK314.out) hb); have n1_ := Aside0.mk (blk_below (g := gb318) (o := .cells #[.int .i64 ((rd_T46 (rd_L3 l0_2 x32_2) x41_3).f0), .int .i64 ((rd_T46 (rd_L3 l0_2 x32_2) x41_3).f1), .int .i64 ((rd_T46 (rd_L3 l0_2 x32_2) x41_3).f2), .int .i64 ((rd_T46 (rd_L3 l0_2 x32_2) x41_3).f3), .int .i64 ((rd_T46 (rd_L3 l0_2 x32_2) x41_3).f4), .int .i64 ((rd_T46 (rd_L3 l0_2 x32_2) x41_3).f5), .int .u64 ((rd_T46 (rd_L3 l0_2 x32_2) x41_3).f6), .int .i64 ((rd_T46 (rd_L3 l0_2 x32_2) x41_3).f7)] 46 (0, 0)) (by (with_reducible repeat (first | refine blk_drewN ?_ _ | refine blk_drew ?_ | refine blk_alloc ?_ _)); refine blk_put (cs := #[.int .i64 ((rd_T46 (rd_L3 l0_2 x32_2) x41_3).f0), .int .i64 ((rd_T46 (rd_L3 l0_2 x32_2) x41_3).f1), .int .i64 ((rd_T46 (rd_L3 l0_2 x32_2) x41_3).f2), .int .i64 ((rd_T46 (rd_L3 l0_2 x32_2) x41_3).f3), .int .i64 ((rd_T46 (rd_L3 l0_2 x32_2) x41_3).f4), .int .i64 ((rd_T46 (rd_L3 l0_2 x32_2) x41_3).f5), .int .u64 ((rd_T46 (rd_L3 l0_2 x32_2) x41_3).f6), .int .i64 0]) ?_ 7 _ rfl; (with_reducible repeat (first | refine blk_drewN ?_ _ | refine blk_drew ?_ | refine blk_alloc ?_ _)); refine blk_put (cs := #[.int .i64 ((rd_T46 (rd_L3 l0_2 x32_2) x41_3).f0), .int .i64 ((rd_T46 (rd_L3 l0_2 x32_2) x41_3).f1), .int .i64 ((rd_T46 (rd_L3 l0_2 x32_2) x41_3).f2), .int .i64 ((rd_T46 (rd_L3 l0_2 x32_2) x41_3).f3), .int .i64 ((rd_T46 (rd_L3 l0_2 x32_2) x41_3).f4), .int .i64 ((rd_T46 (rd_L3 l0_2 x32_2) x41_3).f5), .int .u64 0, .int .i64 0]) ?_ 6 _ rfl; (with_reducible repeat (first | refine blk_drewN ?_ _ | refine blk_drew ?_ | refine blk_alloc ?_ _)); refine blk_put (cs := #[.int .i64 ((rd_T46 (rd_L3 l0_2 x32_2) x41_3).f0), .int .i64 ((rd_T46 (rd_L3 l0_2 x32_2) x41_3).f1), .int .i64 ((rd_T46 (rd_L3 l0_2 x32_2) x41_3).f2), .int .i64 ((rd_T46 (rd_L3 l0_2 x32_2) x41_3).f3), .int .i64 ((rd_T46 (rd_L3 l0_2 x32_2) x41_3).f4), .int .i64 0, .int .u64 0, .int .i64 0]) ?_ 5 _ rfl; (with_reducible repeat (first | refine blk_drewN ?_ _ | refine blk_drew ?_ | refine blk_alloc ?_ _)); refine blk_put (cs := #[.int .i64 ((rd_T46 (rd_L3 l0_2 x32_2) x41_3).f0), .int .i64 ((rd_T46 (rd_L3 l0_2 x32_2) x41_3).f1), .int .i64 ((rd_T46 (rd_L3 l0_2 x32_2) x41_3).f2), .int .i64 ((rd_T46 (rd_L3 l0_2 x32_2) x41_3).f3), .int .i64 0, .int .i64 0, .int .u64 0, .int .i64 0]) ?_ 4 _ rfl; (with_reducible repeat (first | refine blk_drewN ?_ _ | refine blk_drew ?_ | refine blk_alloc ?_ _)); refine blk_put (cs := #[.int .i64 ((rd_T46 (rd_L3 l0_2 x32_2) x41_3).f0), .int .i64 ((rd_T46 (rd_L3 l0_2 x32_2) x41_3).f1), .int .i64 ((rd_T46 (rd_L3 l0_2 x32_2) x41_3).f2), .int .i64 0, .int .i64 0, .int .i64 0, .int .u64 0, .int .i64 0]) ?_ 3 _ rfl; (with_reducible repeat (first | refine blk_drewN ?_ _ | refine blk_drew ?_ | refine blk_alloc ?_ _)); refine blk_put (cs := #[.int .i64 ((rd_T46 (rd_L3 l0_2 x32_2) x41_3).f0), .int .i64 ((rd_T46 (rd_L3 l0_2 x32_2) x41_3).f1), .int .i64 0, .int .i64 0, .int .i64 0, .int .i64 0, .int .u64 0, .int .i64 0]) ?_ 2 _ rfl; (with_reducible repeat (first | refine blk_drewN ?_ _ | refine blk_drew ?_ | refine blk_alloc ?_ _)); refine blk_put (cs := #[.int .i64 ((rd_T46 (rd_L3 l0_2 x32_2) x41_3).f0), .int .i64 0, .int .i64 0, .int .i64 0, .int .i64 0, .int .i64 0, .int .u64 0, .int .i64 0]) ?_ 1 _ rfl; (with_reducible repeat (first | refine blk_drewN ?_ _ | refine blk_drew ?_ | refine blk_alloc ?_ _)); refine blk_put (cs := #[.int .i64 0, .int .i64 0, .int .i64 0, .int .i64 0, .int .i64 0, .int .i64 0, .int .u64 0, .int .i64 0]) ?_ 0 _ rfl; (with_reducible repeat (first | refine blk_drewN ?_ _ | refine blk_drew ?_ | refine blk_alloc ?_ _)); exact BK318.out) hb); have n2_ := Aside0.mk (below_step (by repeat (first | (with_reducible first | exact HB.out | apply below_alloc | apply pw_below_drewN | apply below_drew1 | refine below_set ?_ GE314.out | refine below_set ?_ GE318.out) | exact HB.out)) hb); clear BK314; clear BK318; clear HB; have BK314 := n0_; have BK318 := n1_; have HB := n2_; clear n0_ n1_ n2_; (try clear hb); (try clear hb2); (try clear hk); (try clear hi); have hcz110_0 : w109.cell? ⟨gb318, 0, none⟩ = some (.int .i64 ((rd_T46 (rd_L3 l0_2 x32_2) x41_3).f0)) := (blk_cell BK318.out 0).trans rfl; have hcz110_1 : w109.cell? ⟨gb318, 1, none⟩ = some (.int .i64 ((rd_T46 (rd_L3 l0_2 x32_2) x41_3).f1)) := (blk_cell BK318.out 1).trans rfl; have hcz110_2 : w109.cell? ⟨gb318, 2, none⟩ = some (.int .i64 ((rd_T46 (rd_L3 l0_2 x32_2) x41_3).f2)) := (blk_cell BK318.out 2).trans rfl; have hcz110_3 : w109.cell? ⟨gb318, 3, none⟩ = some (.int .i64 ((rd_T46 (rd_L3 l0_2 x32_2) x41_3).f3)) := (blk_cell BK318.out 3).trans rfl; have hcz110_4 : w109.cell? ⟨gb318, 4, none⟩ = some (.int .i64 ((rd_T46 (rd_L3 l0_2 x32_2) x41_3).f4)) := (blk_cell BK318.out 4).trans rfl; have hcz110_5 : w109.cell? ⟨gb318, 5, none⟩ = some (.int .i64 ((rd_T46 (rd_L3 l0_2 x32_2) x41_3).f5)) := (blk_cell BK318.out 5).trans rfl; have hcz110_6 : w109.cell? ⟨gb318, 6, none⟩ = some (.int .u64 ((rd_T46 (rd_L3 l0_2 x32_2) x41_3).f6)) := (blk_cell BK318.out 6).trans rfl; have hcz110_7 : w109.cell? ⟨gb318, 7, none⟩ = some (.int .i64 ((rd_T46 (rd_L3 l0_2 x32_2) x41_3).f7)) := (blk_cell BK318.out 7).trans rfl; have hfz110_0 := blk_frozen BK318.out 0; have hfz110_1 := blk_frozen BK318.out 1; have hfz110_2 := blk_frozen BK318.out 2; have hfz110_3 := blk_frozen BK318.out 3; have hfz110_4 := blk_frozen BK318.out 4; have hfz110_5 := blk_frozen BK318.out 5; have hfz110_6 := blk_frozen BK318.out 6; have hfz110_7 := blk_frozen BK318.out 7; have hcz111_0 : w109.cell? ⟨gb314, 0, none⟩ = some (.int .i64 a0_0) := (blk_cell BK314.out 0).trans rfl; have hcz111_1 : w109.cell? ⟨gb314, 1, none⟩ = some (.int .i64 a0_1) := (blk_cell BK314.out 1).trans rfl; have hcz111_2 : w109.cell? ⟨gb314, 2, none⟩ = some (.slice (some ad315) l0_2.length c0_2) := (blk_cell BK314.out 2).trans rfl; have hfz111_0 := blk_frozen BK314.out 0; have hfz111_1 := blk_frozen BK314.out 1; have hfz111_2 := blk_frozen BK314.out 2))
                                      go_ret
                                      exact ⟨by first | rfl | (simp [errW_none, errW_some] <;> rfl) | (simp [*, errW_none, errW_some] <;> rfl), by repeat (first | (with_reducible first | exact HB.out | apply below_alloc | apply pw_below_drewN | apply below_drew1 | refine below_set ?_ GE314.out | refine below_set ?_ GE318.out) | exact HB.out)⟩
                                    · rw [if_neg c105] at H
                                      have c105b0 : decide ((IntKind.u64.wrap (a0_1)) ≤ ((rd_T46 (rd_L3 l0_2 x32_2) x41_3).f6)) = false := decide_eq_false c105
                                      clear c105
                                      have H' := Aside0.mk H
                                      clear H
                                      have p317 : 0 ≤ (x41_3 : Int) := of_decide_eq_true (by first | (with_reducible assumption) | assumption)
                                      have q317 : x41_3 < ((rd_L3 l0_2 x32_2).length : Int) := of_decide_eq_true (by first | (with_reducible assumption) | assumption)
                                      obtain ⟨ad317, e317, hx317_0, hx317_1, hx317_2, hx317_3, hx317_4, hx317_5, hx317_6, hx317_7⟩ := at_T46 HR315_0.out x41_3 p317 q317
                                      cases e317
                                      replace hx317_0 := (HB.out.cell (World.block_lt_of_cell? w _ hx317_0)).trans hx317_0
                                      replace hx317_1 := (HB.out.cell (World.block_lt_of_cell? w _ hx317_1)).trans hx317_1
                                      replace hx317_2 := (HB.out.cell (World.block_lt_of_cell? w _ hx317_2)).trans hx317_2
                                      replace hx317_3 := (HB.out.cell (World.block_lt_of_cell? w _ hx317_3)).trans hx317_3
                                      replace hx317_4 := (HB.out.cell (World.block_lt_of_cell? w _ hx317_4)).trans hx317_4
                                      replace hx317_5 := (HB.out.cell (World.block_lt_of_cell? w _ hx317_5)).trans hx317_5
                                      replace hx317_6 := (HB.out.cell (World.block_lt_of_cell? w _ hx317_6)).trans hx317_6
                                      replace hx317_7 := (HB.out.cell (World.block_lt_of_cell? w _ hx317_7)).trans hx317_7
                                      replace p317 := eq_true p317
                                      replace q317 := eq_true q317
                                      go_wp2_with (first | ((with_reducible refine gate_dst (N := 6) rfl ?_); (try (refine gate_guard (by rfl) ?_; dsimp only)); refine box_event ?hg (N := 6) ?hd (cs := #[.int .i64 0, .int .i64 0, .int .i64 0, .int .i64 0, .int .i64 0, .int .i64 0, .int .u64 0, .int .i64 0]) (t := 46) ?hr ?_; (case hd => rfl); (case hg => rfl); (case hr => first | (go_simp; done) | (go_simp; rfl)); intro gb318 hg w112 hbox hb; have n0_ := Aside0.mk (blk_below (g := gb314) (o := .cells #[.int .i64 a0_0, .int .i64 a0_1, .slice (some ad315) l0_2.length c0_2] 25 (0, 0)) (by (with_reducible repeat (first | refine blk_drewN ?_ _ | refine blk_drew ?_ | refine blk_alloc ?_ _)); exact BK314.out) hb); have n1_ := Aside0.mk (below_step (by repeat (first | (with_reducible first | exact HB.out | apply below_alloc | apply pw_below_drewN | apply below_drew1 | refine below_set ?_ GE314.out) | exact HB.out)) hb); have n2_ := Aside0.mk (hbox); have n3_ := Aside0.mk ((by rw [hg]; exact (below_size (by repeat (first | (with_reducible first | exact HB.out | apply below_alloc | apply pw_below_drewN | apply below_drew1 | refine below_set ?_ GE314.out) | exact HB.out))) : w.heap.size ≤ gb318)); have n4_ := Aside0.mk ((by rw [hg]; exact (below_size (by repeat (first | (with_reducible first | exact HB.out | apply below_alloc | apply pw_below_drewN | apply below_drew1 | refine below_set ?_ GE314.out) | exact HB.out))) : w.heap.size ≤ gb318)); have n5_ := Aside0.mk ((by rw [hg]; exact Nat.ne_of_lt (blk_lt (g := gb314) (o := .cells #[.int .i64 a0_0, .int .i64 a0_1, .slice (some ad315) l0_2.length c0_2] 25 (0, 0)) (by (with_reducible repeat (first | refine blk_drewN ?_ _ | refine blk_drew ?_ | refine blk_alloc ?_ _)); exact BK314.out)) : gb314 ≠ gb318)); have n6_ := Aside0.mk ((by rw [hg]; exact Nat.ne_of_gt (blk_lt (g := gb314) (o := .cells #[.int .i64 a0_0, .int .i64 a0_1, .slice (some ad315) l0_2.length c0_2] 25 (0, 0)) (by (with_reducible repeat (first | refine blk_drewN ?_ _ | refine blk_drew ?_ | refine blk_alloc ?_ _)); exact BK314.out)) : gb318 ≠ gb314)); clear BK314; clear HB; have BK314 := n0_; have HB := n1_; have BK318 := n2_; have GW318 := n3_; have GE318 := n4_; have NB314_318 := n5_; have NB318_314 := n6_; clear n0_ n1_ n2_ n3_ n4_ n5_ n6_; clear hb hbox hg; have hnb113 := NB318_314.out; have hnc113 := NB314_318.out; have hcz114_0 : w112.cell? ⟨gb318, 0, none⟩ = some (.int .i64 0) := (blk_cell BK318.out 0).trans rfl; have hcz114_1 : w112.cell? ⟨gb318, 1, none⟩ = some (.int .i64 0) := (blk_cell BK318.out 1).trans rfl; have hcz114_2 : w112.cell? ⟨gb318, 2, none⟩ = some (.int .i64 0) := (blk_cell BK318.out 2).trans rfl; have hcz114_3 : w112.cell? ⟨gb318, 3, none⟩ = some (.int .i64 0) := (blk_cell BK318.out 3).trans rfl; have hcz114_4 : w112.cell? ⟨gb318, 4, none⟩ = some (.int .i64 0) := (blk_cell BK318.out 4).trans rfl; have hcz114_5 : w112.cell? ⟨gb318, 5, none⟩ = some (.int .i64 0) := (blk_cell BK318.out 5).trans rfl; have hcz114_6 : w112.cell? ⟨gb318, 6, none⟩ = some (.int .u64 0) := (blk_cell BK318.out 6).trans rfl; have hcz114_7 : w112.cell? ⟨gb318, 7, none⟩ = some (.int .i64 0) := (blk_cell BK318.out 7).trans rfl; have hfz114_0 := blk_frozen BK318.out 0; have hfz114_1 := blk_frozen BK318.out 1; have hfz114_2 := blk_frozen BK318.out 2; have hfz114_3 := blk_frozen BK318.out 3; have hfz114_4 := blk_frozen BK318.out 4; have hfz114_5 := blk_frozen BK318.out 5; have hfz114_6 := blk_frozen BK318.out 6; have hfz114_7 := blk_frozen BK318.out 7) | ((with_reducible refine gate_callee (f := 20) rfl ?_); refine goesL_ (some 69) rfl rfl Try.func20 (by kernel_rfl) rfl #[.agg #[.int .i64 ((rd_T46 (rd_L3 l0_2 x32_2) x41_3).f0), .int .i64 ((rd_T46 (rd_L3 l0_2 x32_2) x41_3).f1), .int .i64 ((rd_T46 (rd_L3 l0_2 x32_2) x41_3).f2), .int .i64 ((rd_T46 (rd_L3 l0_2 x32_2) x41_3).f3), .int .i64 ((rd_T46 (rd_L3 l0_2 x32_2) x41_3).f4), .int .i64 ((rd_T46 (rd_L3 l0_2 x32_2) x41_3).f5), .int .u64 ((rd_T46 (rd_L3 l0_2 x32_2) x41_3).f6), .int .i64 ((rd_T46 (rd_L3 l0_2 x32_2) x41_3).f7)]] rfl (by (try simp only [List.map_toArray, List.map_cons, List.map_nil]); first | done | rfl | (simp only [List.length_drop, List.length_take]; rfl)) ?_; (with_reducible refine (encode_May.calls k3 ((rd_T46 (rd_L3 l0_2 x32_2) x41_3).f0) ((rd_T46 (rd_L3 l0_2 x32_2) x41_3).f1) ((rd_T46 (rd_L3 l0_2 x32_2) x41_3).f2) ((rd_T46 (rd_L3 l0_2 x32_2) x41_3).f3) ((rd_T46 (rd_L3 l0_2 x32_2) x41_3).f4) ((rd_T46 (rd_L3 l0_2 x32_2) x41_3).f5) ((rd_T46 (rd_L3 l0_2 x32_2) x41_3).f6) ((rd_T46 (rd_L3 l0_2 x32_2) x41_3).f7) true _ A102.out).mono ?_); rintro e w115 ⟨rfl, hb⟩; refine ⟨_, rfl, ?_⟩; have n0_ := Aside0.mk (blk_below (g := gb314) (o := .cells #[.int .i64 a0_0, .int .i64 a0_1, .slice (some ad315) l0_2.length c0_2] 25 (0, 0)) (by (with_reducible repeat (first | refine blk_drewN ?_ _ | refine blk_drew ?_ | refine blk_alloc ?_ _)); refine blk_far ?_ NB314_318.out _; (with_reducible repeat (first | refine blk_drewN ?_ _ | refine blk_drew ?_ | refine blk_alloc ?_ _)); refine blk_far ?_ NB314_318.out _; (with_reducible repeat (first | refine blk_drewN ?_ _ | refine blk_drew ?_ | refine blk_alloc ?_ _)); refine blk_far ?_ NB314_318.out _; (with_reducible repeat (first | refine blk_drewN ?_ _ | refine blk_drew ?_ | refine blk_alloc ?_ _)); refine blk_far ?_ NB314_318.out _; (with_reducible repeat (first | refine blk_drewN ?_ _ | refine blk_drew ?_ | refine blk_alloc ?_ _)); refine blk_far ?_ NB314_318.out _; (with_reducible repeat (first | refine blk_drewN ?_ _ | refine blk_drew ?_ | refine blk_alloc ?_ _)); refine blk_far ?_ NB314_318.out _; (with_reducible repeat (first | refine blk_drewN ?_ _ | refine blk_drew ?_ | refine blk_alloc ?_ _)); refine blk_far ?_ NB314_318.out _; (with_reducible repeat (first | refine blk_drewN ?_ _ | refine blk_drew ?_ | refine blk_alloc ?_ _)); refine blk_far ?_ NB314_318.out _; (with_reducible repeat (first | refine blk_drewN ?_ _ | refine blk_drew ?_ | refine blk_alloc ?_ _)); exact BK314.out) hb); have n1_ := Aside0.mk (blk_below (g := gb318) (o := .cells #[.int .i64 ((rd_T46 (rd_L3 l0_2 x32_2) x41_3).f0), .int .i64 ((rd_T46 (rd_L3 l0_2 x32_2) x41_3).f1), .int .i64 ((rd_T46 (rd_L3 l0_2 x32_2) x41_3).f2), .int .i64 ((rd_T46 (rd_L3 l0_2 x32_2) x41_3).f3), .int .i64 ((rd_T46 (rd_L3 l0_2 x32_2) x41_3).f4), .int .i64 ((rd_T46 (rd_L3 l0_2 x32_2) x41_3).f5), .int .u64 ((rd_T46 (rd_L3 l0_2 x32_2) x41_3).f6), .int .i64 ((rd_T46 (rd_L3 l0_2 x32_2) x41_3).f7)] 46 (0, 0)) (by (with_reducible repeat (first | refine blk_drewN ?_ _ | refine blk_drew ?_ | refine blk_alloc ?_ _)); refine blk_put (cs := #[.int .i64 ((rd_T46 (rd_L3 l0_2 x32_2) x41_3).f0), .int .i64 ((rd_T46 (rd_L3 l0_2 x32_2) x41_3).f1), .int .i64 ((rd_T46 (rd_L3 l0_2 x32_2) x41_3).f2), .int .i64 ((rd_T46 (rd_L3 l0_2 x32_2) x41_3).f3), .int .i64 ((rd_T46 (rd_L3 l0_2 x32_2) x41_3).f4), .int .i64 ((rd_T46 (rd_L3 l0_2 x32_2) x41_3).f5), .int .u64 ((rd_T46 (rd_L3 l0_2 x32_2) x41_3).f6), .int .i64 0]) ?_ 7 _ rfl; (with_reducible repeat (first | refine blk_drewN ?_ _ | refine blk_drew ?_ | refine blk_alloc ?_ _)); refine blk_put (cs := #[.int .i64 ((rd_T46 (rd_L3 l0_2 x32_2) x41_3).f0), .int .i64 ((rd_T46 (rd_L3 l0_2 x32_2) x41_3).f1), .int .i64 ((rd_T46 (rd_L3 l0_2 x32_2) x41_3).f2), .int .i64 ((rd_T46 (rd_L3 l0_2 x32_2) x41_3).f3), .int .i64 ((rd_T46 (rd_L3 l0_2 x32_2) x41_3).f4), .int .i64 ((rd_T46 (rd_L3 l0_2 x32_2) x41_3).f5), .int .u64 0, .int .i64 0]) ?_ 6 _ rfl; (with_reducible repeat (first | refine blk_drewN ?_ _ | refine blk_drew ?_ | refine blk_alloc ?_ _)); refine blk_put (cs := #[.int .i64 ((rd_T46 (rd_L3 l0_2 x32_2) x41_3).f0), .int .i64 ((rd_T46 (rd_L3 l0_2 x32_2) x41_3).f1), .int .i64 ((rd_T46 (rd_L3 l0_2 x32_2) x41_3).f2), .int .i64 ((rd_T46 (rd_L3 l0_2 x32_2) x41_3).f3), .int .i64 ((rd_T46 (rd_L3 l0_2 x32_2) x41_3).f4), .int .i64 0, .int .u64 0, .int .i64 0]) ?_ 5 _ rfl; (with_reducible repeat (first | refine blk_drewN ?_ _ | refine blk_drew ?_ | refine blk_alloc ?_ _)); refine blk_put (cs := #[.int .i64 ((rd_T46 (rd_L3 l0_2 x32_2) x41_3).f0), .int .i64 ((rd_T46 (rd_L3 l0_2 x32_2) x41_3).f1), .int .i64 ((rd_T46 (rd_L3 l0_2 x32_2) x41_3).f2), .int .i64 ((rd_T46 (rd_L3 l0_2 x32_2) x41_3).f3), .int .i64 0, .int .i64 0, .int .u64 0, .int .i64 0]) ?_ 4 _ rfl; (with_reducible repeat (first | refine blk_drewN ?_ _ | refine blk_drew ?_ | refine blk_alloc ?_ _)); refine blk_put (cs := #[.int .i64 ((rd_T46 (rd_L3 l0_2 x32_2) x41_3).f0), .int .i64 ((rd_T46 (rd_L3 l0_2 x32_2) x41_3).f1), .int .i64 ((rd_T46 (rd_L3 l0_2 x32_2) x41_3).f2), .int .i64 0, .int .i64 0, .int .i64 0, .int .u64 0, .int .i64 0]) ?_ 3 _ rfl; (with_reducible repeat (first | refine blk_drewN ?_ _ | refine blk_drew ?_ | refine blk_alloc ?_ _)); refine blk_put (cs := #[.int .i64 ((rd_T46 (rd_L3 l0_2 x32_2) x41_3).f0), .int .i64 ((rd_T46 (rd_L3 l0_2 x32_2) x41_3).f1), .int .i64 0, .int .i64 0, .int .i64 0, .int .i64 0, .int .u64 0, .int .i64 0]) ?_ 2 _ rfl; (with_reducible repeat (first | refine blk_drewN ?_ _ | refine blk_drew ?_ | refine blk_alloc ?_ _)); refine blk_put (cs := #[.int .i64 ((rd_T46 (rd_L3 l0_2 x32_2) x41_3).f0), .int .i64 0, .int .i64 0, .int .i64 0, .int .i64 0, .int .i64 0, .int .u64 0, .int .i64 0]) ?_ 1 _ rfl; (with_reducible repeat (first | refine blk_drewN ?_ _ | refine blk_drew ?_ | refine blk_alloc ?_ _)); refine blk_put (cs := #[.int .i64 0, .int .i64 0, .int .i64 0, .int .i64 0, .int .i64 0, .int .i64 0, .int .u64 0, .int .i64 0]) ?_ 0 _ rfl; (with_reducible repeat (first | refine blk_drewN ?_ _ | refine blk_drew ?_ | refine blk_alloc ?_ _)); exact BK318.out) hb); have n2_ := Aside0.mk (below_step (by repeat (first | (with_reducible first | exact HB.out | apply below_alloc | apply pw_below_drewN | apply below_drew1 | refine below_set ?_ GE314.out | refine below_set ?_ GE318.out) | exact HB.out)) hb); clear BK314; clear BK318; clear HB; have BK314 := n0_; have BK318 := n1_; have HB := n2_; clear n0_ n1_ n2_; (try clear hb); (try clear hb2); (try clear hk); (try clear hi); have hcz116_0 : w115.cell? ⟨gb318, 0, none⟩ = some (.int .i64 ((rd_T46 (rd_L3 l0_2 x32_2) x41_3).f0)) := (blk_cell BK318.out 0).trans rfl; have hcz116_1 : w115.cell? ⟨gb318, 1, none⟩ = some (.int .i64 ((rd_T46 (rd_L3 l0_2 x32_2) x41_3).f1)) := (blk_cell BK318.out 1).trans rfl; have hcz116_2 : w115.cell? ⟨gb318, 2, none⟩ = some (.int .i64 ((rd_T46 (rd_L3 l0_2 x32_2) x41_3).f2)) := (blk_cell BK318.out 2).trans rfl; have hcz116_3 : w115.cell? ⟨gb318, 3, none⟩ = some (.int .i64 ((rd_T46 (rd_L3 l0_2 x32_2) x41_3).f3)) := (blk_cell BK318.out 3).trans rfl; have hcz116_4 : w115.cell? ⟨gb318, 4, none⟩ = some (.int .i64 ((rd_T46 (rd_L3 l0_2 x32_2) x41_3).f4)) := (blk_cell BK318.out 4).trans rfl; have hcz116_5 : w115.cell? ⟨gb318, 5, none⟩ = some (.int .i64 ((rd_T46 (rd_L3 l0_2 x32_2) x41_3).f5)) := (blk_cell BK318.out 5).trans rfl; have hcz116_6 : w115.cell? ⟨gb318, 6, none⟩ = some (.int .u64 ((rd_T46 (rd_L3 l0_2 x32_2) x41_3).f6)) := (blk_cell BK318.out 6).trans rfl; have hcz116_7 : w115.cell? ⟨gb318, 7, none⟩ = some (.int .i64 ((rd_T46 (rd_L3 l0_2 x32_2) x41_3).f7)) := (blk_cell BK318.out 7).trans rfl; have hfz116_0 := blk_frozen BK318.out 0; have hfz116_1 := blk_frozen BK318.out 1; have hfz116_2 := blk_frozen BK318.out 2; have hfz116_3 := blk_frozen BK318.out 3; have hfz116_4 := blk_frozen BK318.out 4; have hfz116_5 := blk_frozen BK318.out 5; have hfz116_6 := blk_frozen BK318.out 6; have hfz116_7 := blk_frozen BK318.out 7; have hcz117_0 : w115.cell? ⟨gb314, 0, none⟩ = some (.int .i64 a0_0) := (blk_cell BK314.out 0).trans rfl; have hcz117_1 : w115.cell? ⟨gb314, 1, none⟩ = some (.int .i64 a0_1) := (blk_cell BK314.out 1).trans rfl; have hcz117_2 : w115.cell? ⟨gb314, 2, none⟩ = some (.slice (some ad315) l0_2.length c0_2) := (blk_cell BK314.out 2).trans rfl; have hfz117_0 := blk_frozen BK314.out 0; have hfz117_1 := blk_frozen BK314.out 1; have hfz117_2 := blk_frozen BK314.out 2))
                                      go_roundg k3
                                      case measure => have := HJ1.out; have := HK2.out; have := HK3.out; omega
                                      case rel => exact ⟨(wrap64 (x41_3 + 1)), (by first | rfl | (simp; done) | (simp [*]; done)), H', ⟨by have := HJ1.out; have := HK2.out; have := HK3.out; omega⟩, ⟨by (with_reducible repeat (first | refine blk_drewN ?_ _ | refine blk_drew ?_ | refine blk_alloc ?_ _)); exact BK314.out⟩, ⟨by repeat (first | (with_reducible first | exact HB.out | apply below_alloc | apply pw_below_drewN | apply below_drew1 | refine below_set ?_ GE314.out | refine below_set ?_ GE318.out) | exact HB.out)⟩⟩
                                  · rw [if_neg c104] at H
                                    have c104b0 : (((rd_T46 (rd_L3 l0_2 x32_2) x41_3).f0) == 10) = false := beq_eq_false_iff_ne.mpr c104
                                    have c104b1 : (((rd_T46 (rd_L3 l0_2 x32_2) x41_3).f0) != 10) = true := bne_iff_ne.mpr c104
                                    have H' := Aside0.mk H
                                    clear H
                                    have p317 : 0 ≤ (x41_3 : Int) := of_decide_eq_true (by first | (with_reducible assumption) | assumption)
                                    have q317 : x41_3 < ((rd_L3 l0_2 x32_2).length : Int) := of_decide_eq_true (by first | (with_reducible assumption) | assumption)
                                    obtain ⟨ad317, e317, hx317_0, hx317_1, hx317_2, hx317_3, hx317_4, hx317_5, hx317_6, hx317_7⟩ := at_T46 HR315_0.out x41_3 p317 q317
                                    cases e317
                                    replace hx317_0 := (HB.out.cell (World.block_lt_of_cell? w _ hx317_0)).trans hx317_0
                                    replace hx317_1 := (HB.out.cell (World.block_lt_of_cell? w _ hx317_1)).trans hx317_1
                                    replace hx317_2 := (HB.out.cell (World.block_lt_of_cell? w _ hx317_2)).trans hx317_2
                                    replace hx317_3 := (HB.out.cell (World.block_lt_of_cell? w _ hx317_3)).trans hx317_3
                                    replace hx317_4 := (HB.out.cell (World.block_lt_of_cell? w _ hx317_4)).trans hx317_4
                                    replace hx317_5 := (HB.out.cell (World.block_lt_of_cell? w _ hx317_5)).trans hx317_5
                                    replace hx317_6 := (HB.out.cell (World.block_lt_of_cell? w _ hx317_6)).trans hx317_6
                                    replace hx317_7 := (HB.out.cell (World.block_lt_of_cell? w _ hx317_7)).trans hx317_7
                                    replace p317 := eq_true p317
                                    replace q317 := eq_true q317
                                    go_wp2_with (first | ((with_reducible refine gate_dst (N := 6) rfl ?_); (try (refine gate_guard (by rfl) ?_; dsimp only)); refine box_event ?hg (N := 6) ?hd (cs := #[.int .i64 0, .int .i64 0, .int .i64 0, .int .i64 0, .int .i64 0, .int .i64 0, .int .u64 0, .int .i64 0]) (t := 46) ?hr ?_; (case hd => rfl); (case hg => rfl); (case hr => first | (go_simp; done) | (go_simp; rfl)); intro gb318 hg w118 hbox hb; have n0_ := Aside0.mk (blk_below (g := gb314) (o := .cells #[.int .i64 a0_0, .int .i64 a0_1, .slice (some ad315) l0_2.length c0_2] 25 (0, 0)) (by (with_reducible repeat (first | refine blk_drewN ?_ _ | refine blk_drew ?_ | refine blk_alloc ?_ _)); exact BK314.out) hb); have n1_ := Aside0.mk (below_step (by repeat (first | (with_reducible first | exact HB.out | apply below_alloc | apply pw_below_drewN | apply below_drew1 | refine below_set ?_ GE314.out) | exact HB.out)) hb); have n2_ := Aside0.mk (hbox); have n3_ := Aside0.mk ((by rw [hg]; exact (below_size (by repeat (first | (with_reducible first | exact HB.out | apply below_alloc | apply pw_below_drewN | apply below_drew1 | refine below_set ?_ GE314.out) | exact HB.out))) : w.heap.size ≤ gb318)); have n4_ := Aside0.mk ((by rw [hg]; exact (below_size (by repeat (first | (with_reducible first | exact HB.out | apply below_alloc | apply pw_below_drewN | apply below_drew1 | refine below_set ?_ GE314.out) | exact HB.out))) : w.heap.size ≤ gb318)); have n5_ := Aside0.mk ((by rw [hg]; exact Nat.ne_of_lt (blk_lt (g := gb314) (o := .cells #[.int .i64 a0_0, .int .i64 a0_1, .slice (some ad315) l0_2.length c0_2] 25 (0, 0)) (by (with_reducible repeat (first | refine blk_drewN ?_ _ | refine blk_drew ?_ | refine blk_alloc ?_ _)); exact BK314.out)) : gb314 ≠ gb318)); have n6_ := Aside0.mk ((by rw [hg]; exact Nat.ne_of_gt (blk_lt (g := gb314) (o := .cells #[.int .i64 a0_0, .int .i64 a0_1, .slice (some ad315) l0_2.length c0_2] 25 (0, 0)) (by (with_reducible repeat (first | refine blk_drewN ?_ _ | refine blk_drew ?_ | refine blk_alloc ?_ _)); exact BK314.out)) : gb318 ≠ gb314)); clear BK314; clear HB; have BK314 := n0_; have HB := n1_; have BK318 := n2_; have GW318 := n3_; have GE318 := n4_; have NB314_318 := n5_; have NB318_314 := n6_; clear n0_ n1_ n2_ n3_ n4_ n5_ n6_; clear hb hbox hg; have hnb119 := NB318_314.out; have hnc119 := NB314_318.out; have hcz120_0 : w118.cell? ⟨gb318, 0, none⟩ = some (.int .i64 0) := (blk_cell BK318.out 0).trans rfl; have hcz120_1 : w118.cell? ⟨gb318, 1, none⟩ = some (.int .i64 0) := (blk_cell BK318.out 1).trans rfl; have hcz120_2 : w118.cell? ⟨gb318, 2, none⟩ = some (.int .i64 0) := (blk_cell BK318.out 2).trans rfl; have hcz120_3 : w118.cell? ⟨gb318, 3, none⟩ = some (.int .i64 0) := (blk_cell BK318.out 3).trans rfl; have hcz120_4 : w118.cell? ⟨gb318, 4, none⟩ = some (.int .i64 0) := (blk_cell BK318.out 4).trans rfl; have hcz120_5 : w118.cell? ⟨gb318, 5, none⟩ = some (.int .i64 0) := (blk_cell BK318.out 5).trans rfl; have hcz120_6 : w118.cell? ⟨gb318, 6, none⟩ = some (.int .u64 0) := (blk_cell BK318.out 6).trans rfl; have hcz120_7 : w118.cell? ⟨gb318, 7, none⟩ = some (.int .i64 0) := (blk_cell BK318.out 7).trans rfl; have hfz120_0 := blk_frozen BK318.out 0; have hfz120_1 := blk_frozen BK318.out 1; have hfz120_2 := blk_frozen BK318.out 2; have hfz120_3 := blk_frozen BK318.out 3; have hfz120_4 := blk_frozen BK318.out 4; have hfz120_5 := blk_frozen BK318.out 5; have hfz120_6 := blk_frozen BK318.out 6; have hfz120_7 := blk_frozen BK318.out 7) | ((with_reducible refine gate_callee (f := 20) rfl ?_); refine goesL_ (some 69) rfl rfl Try.func20 (by kernel_rfl) rfl #[.agg #[.int .i64 ((rd_T46 (rd_L3 l0_2 x32_2) x41_3).f0), .int .i64 ((rd_T46 (rd_L3 l0_2 x32_2) x41_3).f1), .int .i64 ((rd_T46 (rd_L3 l0_2 x32_2) x41_3).f2), .int .i64 ((rd_T46 (rd_L3 l0_2 x32_2) x41_3).f3), .int .i64 ((rd_T46 (rd_L3 l0_2 x32_2) x41_3).f4), .int .i64 ((rd_T46 (rd_L3 l0_2 x32_2) x41_3).f5), .int .u64 ((rd_T46 (rd_L3 l0_2 x32_2) x41_3).f6), .int .i64 ((rd_T46 (rd_L3 l0_2 x32_2) x41_3).f7)]] rfl (by (try simp only [List.map_toArray, List.map_cons, List.map_nil]); first | done | rfl | (simp only [List.length_drop, List.length_take]; rfl)) ?_; (with_reducible refine (encode_May.calls k3 ((rd_T46 (rd_L3 l0_2 x32_2) x41_3).f0) ((rd_T46 (rd_L3 l0_2 x32_2) x41_3).f1) ((rd_T46 (rd_L3 l0_2 x32_2) x41_3).f2) ((rd_T46 (rd_L3 l0_2 x32_2) x41_3).f3) ((rd_T46 (rd_L3 l0_2 x32_2) x41_3).f4) ((rd_T46 (rd_L3 l0_2 x32_2) x41_3).f5) ((rd_T46 (rd_L3 l0_2 x32_2) x41_3).f6) ((rd_T46 (rd_L3 l0_2 x32_2) x41_3).f7) true _ A102.out).mono ?_); rintro e w121 ⟨rfl, hb⟩; refine ⟨_, rfl, ?_⟩; have n0_ := Aside0.mk (blk_below (g := gb314) (o := .cells #[.int .i64 a0_0, .int .i64 a0_1, .slice (some ad315) l0_2.length c0_2] 25 (0, 0)) (by (with_reducible repeat (first | refine blk_drewN ?_ _ | refine blk_drew ?_ | refine blk_alloc ?_ _)); refine blk_far ?_ NB314_318.out _; (with_reducible repeat (first | refine blk_drewN ?_ _ | refine blk_drew ?_ | refine blk_alloc ?_ _)); refine blk_far ?_ NB314_318.out _; (with_reducible repeat (first | refine blk_drewN ?_ _ | refine blk_drew ?_ | refine blk_alloc ?_ _)); refine blk_far ?_ NB314_318.out _; (with_reducible repeat (first | refine blk_drewN ?_ _ | refine blk_drew ?_ | refine blk_alloc ?_ _)); refine blk_far ?_ NB314_318.out _; (with_reducible repeat (first | refine blk_drewN ?_ _ | refine blk_drew ?_ | refine blk_alloc ?_ _)); refine blk_far ?_ NB314_318.out _; (with_reducible repeat (first | refine blk_drewN ?_ _ | refine blk_drew ?_ | refine blk_alloc ?_ _)); refine blk_far ?_ NB314_318.out _; (with_reducible repeat (first | refine blk_drewN ?_ _ | refine blk_drew ?_ | refine blk_alloc ?_ _)); refine blk_far ?_ NB314_318.out _; (with_reducible repeat (first | refine blk_drewN ?_ _ | refine blk_drew ?_ | refine blk_alloc ?_ _)); refine blk_far ?_ NB314_318.out _; (with_reducible repeat (first | refine blk_drewN ?_ _ | refine blk_drew ?_ | refine blk_alloc ?_ _)); exact BK314.out) hb); have n1_ := Aside0.mk (blk_below (g := gb318) (o := .cells #[.int .i64 ((rd_T46 (rd_L3 l0_2 x32_2) x41_3).f0), .int .i64 ((rd_T46 (rd_L3 l0_2 x32_2) x41_3).f1), .int .i64 ((rd_T46 (rd_L3 l0_2 x32_2) x41_3).f2), .int .i64 ((rd_T46 (rd_L3 l0_2 x32_2) x41_3).f3), .int .i64 ((rd_T46 (rd_L3 l0_2 x32_2) x41_3).f4), .int .i64 ((rd_T46 (rd_L3 l0_2 x32_2) x41_3).f5), .int .u64 ((rd_T46 (rd_L3 l0_2 x32_2) x41_3).f6), .int .i64 ((rd_T46 (rd_L3 l0_2 x32_2) x41_3).f7)] 46 (0, 0)) (by (with_reducible repeat (first | refine blk_drewN ?_ _ | refine blk_drew ?_ | refine blk_alloc ?_ _)); refine blk_put (cs := #[.int .i64 ((rd_T46 (rd_L3 l0_2 x32_2) x41_3).f0), .int .i64 ((rd_T46 (rd_L3 l0_2 x32_2) x41_3).f1), .int .i64 ((rd_T46 (rd_L3 l0_2 x32_2) x41_3).f2), .int .i64 ((rd_T46 (rd_L3 l0_2 x32_2) x41_3).f3), .int .i64 ((rd_T46 (rd_L3 l0_2 x32_2) x41_3).f4), .int .i64 ((rd_T46 (rd_L3 l0_2 x32_2) x41_3).f5), .int .u64 ((rd_T46 (rd_L3 l0_2 x32_2) x41_3).f6), .int .i64 0]) ?_ 7 _ rfl; (with_reducible repeat (first | refine blk_drewN ?_ _ | refine blk_drew ?_ | refine blk_alloc ?_ _)); refine blk_put (cs := #[.int .i64 ((rd_T46 (rd_L3 l0_2 x32_2) x41_3).f0), .int .i64 ((rd_T46 (rd_L3 l0_2 x32_2) x41_3).f1), .int .i64 ((rd_T46 (rd_L3 l0_2 x32_2) x41_3).f2), .int .i64 ((rd_T46 (rd_L3 l0_2 x32_2) x41_3).f3), .int .i64 ((rd_T46 (rd_L3 l0_2 x32_2) x41_3).f4), .int .i64 ((rd_T46 (rd_L3 l0_2 x32_2) x41_3).f5), .int .u64 0, .int .i64 0]) ?_ 6 _ rfl; (with_reducible repeat (first | refine blk_drewN ?_ _ | refine blk_drew ?_ | refine blk_alloc ?_ _)); refine blk_put (cs := #[.int .i64 ((rd_T46 (rd_L3 l0_2 x32_2) x41_3).f0), .int .i64 ((rd_T46 (rd_L3 l0_2 x32_2) x41_3).f1), .int .i64 ((rd_T46 (rd_L3 l0_2 x32_2) x41_3).f2), .int .i64 ((rd_T46 (rd_L3 l0_2 x32_2) x41_3).f3), .int .i64 ((rd_T46 (rd_L3 l0_2 x32_2) x41_3).f4), .int .i64 0, .int .u64 0, .int .i64 0]) ?_ 5 _ rfl; (with_reducible repeat (first | refine blk_drewN ?_ _ | refine blk_drew ?_ | refine blk_alloc ?_ _)); refine blk_put (cs := #[.int .i64 ((rd_T46 (rd_L3 l0_2 x32_2) x41_3).f0), .int .i64 ((rd_T46 (rd_L3 l0_2 x32_2) x41_3).f1), .int .i64 ((rd_T46 (rd_L3 l0_2 x32_2) x41_3).f2), .int .i64 ((rd_T46 (rd_L3 l0_2 x32_2) x41_3).f3), .int .i64 0, .int .i64 0, .int .u64 0, .int .i64 0]) ?_ 4 _ rfl; (with_reducible repeat (first | refine blk_drewN ?_ _ | refine blk_drew ?_ | refine blk_alloc ?_ _)); refine blk_put (cs := #[.int .i64 ((rd_T46 (rd_L3 l0_2 x32_2) x41_3).f0), .int .i64 ((rd_T46 (rd_L3 l0_2 x32_2) x41_3).f1), .int .i64 ((rd_T46 (rd_L3 l0_2 x32_2) x41_3).f2), .int .i64 0, .int .i64 0, .int .i64 0, .int .u64 0, .int .i64 0]) ?_ 3 _ rfl; (with_reducible repeat (first | refine blk_drewN ?_ _ | refine blk_drew ?_ | refine blk_alloc ?_ _)); refine blk_put (cs := #[.int .i64 ((rd_T46 (rd_L3 l0_2 x32_2) x41_3).f0), .int .i64 ((rd_T46 (rd_L3 l0_2 x32_2) x41_3).f1), .int .i64 0, .int .i64 0, .int .i64 0, .int .i64 0, .int .u64 0, .int .i64 0]) ?_ 2 _ rfl; (with_reducible repeat (first | refine blk_drewN ?_ _ | refine blk_drew ?_ | refine blk_alloc ?_ _)); refine blk_put (cs := #[.int .i64 ((rd_T46 (rd_L3 l0_2 x32_2) x41_3).f0), .int .i64 0, .int .i64 0, .int .i64 0, .int .i64 0, .int .i64 0, .int .u64 0, .int .i64 0]) ?_ 1 _ rfl; (with_reducible repeat (first | refine blk_drewN ?_ _ | refine blk_drew ?_ | refine blk_alloc ?_ _)); refine blk_put (cs := #[.int .i64 0, .int .i64 0, .int .i64 0, .int .i64 0, .int .i64 0, .int .i64 0, .int .u64 0, .int .i64 0]) ?_ 0 _ rfl; (with_reducible repeat (first | refine blk_drewN ?_ _ | refine blk_drew ?_ | refine blk_alloc ?_ _)); exact BK318.out) hb); have n2_ := Aside0.mk (below_step (by repeat (first | (with_reducible first | exact HB.out | apply below_alloc | apply pw_below_drewN | apply below_drew1 | refine below_set ?_ GE314.out | refine below_set ?_ GE318.out) | exact HB.out)) hb); clear BK314; clear BK318; clear HB; have BK314 := n0_; have BK318 := n1_; have HB := n2_; clear n0_ n1_ n2_; (try clear hb); (try clear hb2); (try clear hk); (try clear hi)))
                                    go_roundg k3
                                    case measure => have := HJ1.out; have := HK2.out; have := HK3.out; omega
                                    case rel => exact ⟨(wrap64 (x41_3 + 1)), (by first | rfl | (simp; done) | (simp [*]; done)), H', ⟨by have := HJ1.out; have := HK2.out; have := HK3.out; omega⟩, ⟨by (with_reducible repeat (first | refine blk_drewN ?_ _ | refine blk_drew ?_ | refine blk_alloc ?_ _)); exact BK314.out⟩, ⟨by repeat (first | (with_reducible first | exact HB.out | apply below_alloc | apply pw_below_drewN | apply below_drew1 | refine below_set ?_ GE314.out | refine below_set ?_ GE318.out) | exact HB.out)⟩⟩
                                · replace c103 := Bool.eq_false_iff.mpr c103
                                  subst c103
                                  have H1 : (some false) = some r := by rw [if_neg (show ¬ (false = true) by decide)] at H; exact H
                                  clear H
                                  have H := H1
                                  clear H1
                                  obtain rfl := Option.some.inj H
                                  have p317 : 0 ≤ (x41_3 : Int) := of_decide_eq_true (by first | (with_reducible assumption) | assumption)
                                  have q317 : x41_3 < ((rd_L3 l0_2 x32_2).length : Int) := of_decide_eq_true (by first | (with_reducible assumption) | assumption)
                                  obtain ⟨ad317, e317, hx317_0, hx317_1, hx317_2, hx317_3, hx317_4, hx317_5, hx317_6, hx317_7⟩ := at_T46 HR315_0.out x41_3 p317 q317
                                  cases e317
                                  replace hx317_0 := (HB.out.cell (World.block_lt_of_cell? w _ hx317_0)).trans hx317_0
                                  replace hx317_1 := (HB.out.cell (World.block_lt_of_cell? w _ hx317_1)).trans hx317_1
                                  replace hx317_2 := (HB.out.cell (World.block_lt_of_cell? w _ hx317_2)).trans hx317_2
                                  replace hx317_3 := (HB.out.cell (World.block_lt_of_cell? w _ hx317_3)).trans hx317_3
                                  replace hx317_4 := (HB.out.cell (World.block_lt_of_cell? w _ hx317_4)).trans hx317_4
                                  replace hx317_5 := (HB.out.cell (World.block_lt_of_cell? w _ hx317_5)).trans hx317_5
                                  replace hx317_6 := (HB.out.cell (World.block_lt_of_cell? w _ hx317_6)).trans hx317_6
                                  replace hx317_7 := (HB.out.cell (World.block_lt_of_cell? w _ hx317_7)).trans hx317_7
                                  replace p317 := eq_true p317
                                  replace q317 := eq_true q317
                                  go_wp2_with (first | ((with_reducible refine gate_dst (N := 6) rfl ?_); (try (refine gate_guard (by rfl) ?_; dsimp only)); refine box_event ?hg (N := 6) ?hd (cs := #[.int .i64 0, .int .i64 0, .int .i64 0, .int .i64 0, .int .i64 0, .int .i64 0, .int .u64 0, .int .i64 0]) (t := 46) ?hr ?_; (case hd => rfl); (case hg => rfl); (case hr => first | (go_simp; done) | (go_simp; rfl)); intro gb318 hg w122 hbox hb; have n0_ := Aside0.mk (blk_below (g := gb314) (o := .cells #[.int .i64 a0_0, .int .i64 a0_1, .slice (some ad315) l0_2.length c0_2] 25 (0, 0)) (by (with_reducible repeat (first | refine blk_drewN ?_ _ | refine blk_drew ?_ | refine blk_alloc ?_ _)); exact BK314.out) hb); have n1_ := Aside0.mk (below_step (by repeat (first | (with_reducible first | exact HB.out | apply below_alloc | apply pw_below_drewN | apply below_drew1 | refine below_set ?_ GE314.out) | exact HB.out)) hb); have n2_ := Aside0.mk (hbox); have n3_ := Aside0.mk ((by rw [hg]; exact (below_size (by repeat (first | (with_reducible first | exact HB.out | apply below_alloc | apply pw_below_drewN | apply below_drew1 | refine below_set ?_ GE314.out) | exact HB.out))) : w.heap.size ≤ gb318)); have n4_ := Aside0.mk ((by rw [hg]; exact (below_size (by repeat (first | (with_reducible first | exact HB.out | apply below_alloc | apply pw_below_drewN | apply below_drew1 | refine below_set ?_ GE314.out) | exact HB.out))) : w.heap.size ≤ gb318)); have n5_ := Aside0.mk ((by rw [hg]; exact Nat.ne_of_lt (blk_lt (g := gb314) (o := .cells #[.int .i64 a0_0, .int .i64 a0_1, .slice (some ad315) l0_2.length c0_2] 25 (0, 0)) (by (with_reducible repeat (first | refine blk_drewN ?_ _ | refine blk_drew ?_ | refine blk_alloc ?_ _)); exact BK314.out)) : gb314 ≠ gb318)); have n6_ := Aside0.mk ((by rw [hg]; exact Nat.ne_of_gt (blk_lt (g := gb314) (o := .cells #[.int .i64 a0_0, .int .i64 a0_1, .slice (some ad315) l0_2.length c0_2] 25 (0, 0)) (by (with_reducible repeat (first | refine blk_drewN ?_ _ | refine blk_drew ?_ | refine blk_alloc ?_ _)); exact BK314.out)) : gb318 ≠ gb314)); clear BK314; clear HB; have BK314 := n0_; have HB := n1_; have BK318 := n2_; have GW318 := n3_; have GE318 := n4_; have NB314_318 := n5_; have NB318_314 := n6_; clear n0_ n1_ n2_ n3_ n4_ n5_ n6_; clear hb hbox hg; have hnb123 := NB318_314.out; have hnc123 := NB314_318.out; have hcz124_0 : w122.cell? ⟨gb318, 0, none⟩ = some (.int .i64 0) := (blk_cell BK318.out 0).trans rfl; have hcz124_1 : w122.cell? ⟨gb318, 1, none⟩ = some (.int .i64 0) := (blk_cell BK318.out 1).trans rfl; have hcz124_2 : w122.cell? ⟨gb318, 2, none⟩ = some (.int .i64 0) := (blk_cell BK318.out 2).trans rfl; have hcz124_3 : w122.cell? ⟨gb318, 3, none⟩ = some (.int .i64 0) := (blk_cell BK318.out 3).trans rfl; have hcz124_4 : w122.cell? ⟨gb318, 4, none⟩ = some (.int .i64 0) := (blk_cell BK318.out 4).trans rfl; have hcz124_5 : w122.cell? ⟨gb318, 5, none⟩ = some (.int .i64 0) := (blk_cell BK318.out 5).trans rfl; have hcz124_6 : w122.cell? ⟨gb318, 6, none⟩ = some (.int .u64 0) := (blk_cell BK318.out 6).trans rfl; have hcz124_7 : w122.cell? ⟨gb318, 7, none⟩ = some (.int .i64 0) := (blk_cell BK318.out 7).trans rfl; have hfz124_0 := blk_frozen BK318.out 0; have hfz124_1 := blk_frozen BK318.out 1; have hfz124_2 := blk_frozen BK318.out 2; have hfz124_3 := blk_frozen BK318.out 3; have hfz124_4 := blk_frozen BK318.out 4; have hfz124_5 := blk_frozen BK318.out 5; have hfz124_6 := blk_frozen BK318.out 6; have hfz124_7 := blk_frozen BK318.out 7) | ((with_reducible refine gate_callee (f := 20) rfl ?_); refine goesL_ (some 69) rfl rfl Try.func20 (by kernel_rfl) rfl #[.agg #[.int .i64 ((rd_T46 (rd_L3 l0_2 x32_2) x41_3).f0), .int .i64 ((rd_T46 (rd_L3 l0_2 x32_2) x41_3).f1), .int .i64 ((rd_T46 (rd_L3 l0_2 x32_2) x41_3).f2), .int .i64 ((rd_T46 (rd_L3 l0_2 x32_2) x41_3).f3), .int .i64 ((rd_T46 (rd_L3 l0_2 x32_2) x41_3).f4), .int .i64 ((rd_T46 (rd_L3 l0_2 x32_2) x41_3).f5), .int .u64 ((rd_T46 (rd_L3 l0_2 x32_2) x41_3).f6), .int .i64 ((rd_T46 (rd_L3 l0_2 x32_2) x41_3).f7)]] rfl (by (try simp only [List.map_toArray, List.map_cons, List.map_nil]); first | done | rfl | (simp only [List.length_drop, List.length_take]; rfl)) ?_; (with_reducible refine (encode_May.calls k3 ((rd_T46 (rd_L3 l0_2 x32_2) x41_3).f0) ((rd_T46 (rd_L3 l0_2 x32_2) x41_3).f1) ((rd_T46 (rd_L3 l0_2 x32_2) x41_3).f2) ((rd_T46 (rd_L3 l0_2 x32_2) x41_3).f3) ((rd_T46 (rd_L3 l0_2 x32_2) x41_3).f4) ((rd_T46 (rd_L3 l0_2 x32_2) x41_3).f5) ((rd_T46 (rd_L3 l0_2 x32_2) x41_3).f6) ((rd_T46 (rd_L3 l0_2 x32_2) x41_3).f7) false _ A102.out).mono ?_); rintro e w125 ⟨rfl, hb⟩; refine ⟨_, rfl, ?_⟩; have n0_ := Aside0.mk (blk_below (g := gb314) (o := .cells #[.int .i64 a0_0, .int .i64 a0_1, .slice (some ad315) l0_2.length c0_2] 25 (0, 0)) (by (with_reducible repeat (first | refine blk_drewN ?_ _ | refine blk_drew ?_ | refine blk_alloc ?_ _)); refine blk_far ?_ NB314_318.out _; (with_reducible repeat (first | refine blk_drewN ?_ _ | refine blk_drew ?_ | refine blk_alloc ?_ _)); refine blk_far ?_ NB314_318.out _; (with_reducible repeat (first | refine blk_drewN ?_ _ | refine blk_drew ?_ | refine blk_alloc ?_ _)); refine blk_far ?_ NB314_318.out _; (with_reducible repeat (first | refine blk_drewN ?_ _ | refine blk_drew ?_ | refine blk_alloc ?_ _)); refine blk_far ?_ NB314_318.out _; (with_reducible repeat (first | refine blk_drewN ?_ _ | refine blk_drew ?_ | refine blk_alloc ?_ _)); refine blk_far ?_ NB314_318.out _; (with_reducible repeat (first | refine blk_drewN ?_ _ | refine blk_drew ?_ | refine blk_alloc ?_ _)); refine blk_far ?_ NB314_318.out _; (with_reducible repeat (first | refine blk_drewN ?_ _ | refine blk_drew ?_ | refine blk_alloc ?_ _)); refine blk_far ?_ NB314_318.out _; (with_reducible repeat (first | refine blk_drewN ?_ _ | refine blk_drew ?_ | refine blk_alloc ?_ _)); refine blk_far ?_ NB314_318.out _; (with_reducible repeat (first | refine blk_drewN ?_ _ | refine blk_drew ?_ | refine blk_alloc ?_ _)); exact BK314.out) hb); have n1_ := Aside0.mk (blk_below (g := gb318) (o := .cells #[.int .i64 ((rd_T46 (rd_L3 l0_2 x32_2) x41_3).f0), .int .i64 ((rd_T46 (rd_L3 l0_2 x32_2) x41_3).f1), .int .i64 ((rd_T46 (rd_L3 l0_2 x32_2) x41_3).f2), .int .i64 ((rd_T46 (rd_L3 l0_2 x32_2) x41_3).f3), .int .i64 ((rd_T46 (rd_L3 l0_2 x32_2) x41_3).f4), .int .i64 ((rd_T46 (rd_L3 l0_2 x32_2) x41_3).f5), .int .u64 ((rd_T46 (rd_L3 l0_2 x32_2) x41_3).f6), .int .i64 ((rd_T46 (rd_L3 l0_2 x32_2) x41_3).f7)] 46 (0, 0)) (by (with_reducible repeat (first | refine blk_drewN ?_ _ | refine blk_drew ?_ | refine blk_alloc ?_ _)); refine blk_put (cs := #[.int .i64 ((rd_T46 (rd_L3 l0_2 x32_2) x41_3).f0), .int .i64 ((rd_T46 (rd_L3 l0_2 x32_2) x41_3).f1), .int .i64 ((rd_T46 (rd_L3 l0_2 x32_2) x41_3).f2), .int .i64 ((rd_T46 (rd_L3 l0_2 x32_2) x41_3).f3), .int .i64 ((rd_T46 (rd_L3 l0_2 x32_2) x41_3).f4), .int .i64 ((rd_T46 (rd_L3 l0_2 x32_2) x41_3).f5), .int .u64 ((rd_T46 (rd_L3 l0_2 x32_2) x41_3).f6), .int .i64 0]) ?_ 7 _ rfl; (with_reducible repeat (first | refine blk_drewN ?_ _ | refine blk_drew ?_ | refine blk_alloc ?_ _)); refine blk_put (cs := #[.int .i64 ((rd_T46 (rd_L3 l0_2 x32_2) x41_3).f0), .int .i64 ((rd_T46 (rd_L3 l0_2 x32_2) x41_3).f1), .int .i64 ((rd_T46 (rd_L3 l0_2 x32_2) x41_3).f2), .int .i64 ((rd_T46 (rd_L3 l0_2 x32_2) x41_3).f3), .int .i64 ((rd_T46 (rd_L3 l0_2 x32_2) x41_3).f4), .int .i64 ((rd_T46 (rd_L3 l0_2 x32_2) x41_3).f5), .int .u64 0, .int .i64 0]) ?_ 6 _ rfl; (with_reducible repeat (first | refine blk_drewN ?_ _ | refine blk_drew ?_ | refine blk_alloc ?_ _)); refine blk_put (cs := #[.int .i64 ((rd_T46 (rd_L3 l0_2 x32_2) x41_3).f0), .int .i64 ((rd_T46 (rd_L3 l0_2 x32_2) x41_3).f1), .int .i64 ((rd_T46 (rd_L3 l0_2 x32_2) x41_3).f2), .int .i64 ((rd_T46 (rd_L3 l0_2 x32_2) x41_3).f3), .int .i64 ((rd_T46 (rd_L3 l0_2 x32_2) x41_3).f4), .int .i64 0, .int .u64 0, .int .i64 0]) ?_ 5 _ rfl; (with_reducible repeat (first | refine blk_drewN ?_ _ | refine blk_drew ?_ | refine blk_alloc ?_ _)); refine blk_put (cs := #[.int .i64 ((rd_T46 (rd_L3 l0_2 x32_2) x41_3).f0), .int .i64 ((rd_T46 (rd_L3 l0_2 x32_2) x41_3).f1), .int .i64 ((rd_T46 (rd_L3 l0_2 x32_2) x41_3).f2), .int .i64 ((rd_T46 (rd_L3 l0_2 x32_2) x41_3).f3), .int .i64 0, .int .i64 0, .int .u64 0, .int .i64 0]) ?_ 4 _ rfl; (with_reducible repeat (first | refine blk_drewN ?_ _ | refine blk_drew ?_ | refine blk_alloc ?_ _)); refine blk_put (cs := #[.int .i64 ((rd_T46 (rd_L3 l0_2 x32_2) x41_3).f0), .int .i64 ((rd_T46 (rd_L3 l0_2 x32_2) x41_3).f1), .int .i64 ((rd_T46 (rd_L3 l0_2 x32_2) x41_3).f2), .int .i64 0, .int .i64 0, .int .i64 0, .int .u64 0, .int .i64 0]) ?_ 3 _ rfl; (with_reducible repeat (first | refine blk_drewN ?_ _ | refine blk_drew ?_ | refine blk_alloc ?_ _)); refine blk_put (cs := #[.int .i64 ((rd_T46 (rd_L3 l0_2 x32_2) x41_3).f0), .int .i64 ((rd_T46 (rd_L3 l0_2 x32_2) x41_3).f1), .int .i64 0, .int .i64 0, .int .i64 0, .int .i64 0, .int .u64 0, .int .i64 0]) ?_ 2 _ rfl; (with_reducible repeat (first | refine blk_drewN ?_ _ | refine blk_drew ?_ | refine blk_alloc ?_ _)); refine blk_put (cs := #[.int .i64 ((rd_T46 (rd_L3 l0_2 x32_2) x41_3).f0), .int .i64 0, .int .i64 0, .int .i64 0, .int .i64 0, .int .i64 0, .int .u64 0, .int .i64 0]) ?_ 1 _ rfl; (with_reducible repeat (first | refine blk_drewN ?_ _ | refine blk_drew ?_ | refine blk_alloc ?_ _)); refine blk_put (cs := #[.int .i64 0, .int .i64 0, .int .i64 0, .int .i64 0, .int .i64 0, .int .i64 0, .int .u64 0, .int .i64 0]) ?_ 0 _ rfl; (with_reducible repeat (first | refine blk_drewN ?_ _ | refine blk_drew ?_ | refine blk_alloc ?_ _)); exact BK318.out) hb); have n2_ := Aside0.mk (below_step (by repeat (first | (with_reducible first | exact HB.out | apply below_alloc | apply pw_below_drewN | apply below_drew1 | refine below_set ?_ GE314.out | refine below_set ?_ GE318.out) | exact HB.out)) hb); clear BK314; clear BK318; clear HB; have BK314 := n0_; have BK318 := n1_; have HB := n2_; clear n0_ n1_ n2_; (try clear hb); (try clear hb2); (try clear hk); (try clear hi)))
                                  go_ret
                                  exact ⟨by first | rfl | (simp [errW_none, errW_some] <;> rfl) | (simp [*, errW_none, errW_some] <;> rfl), by repeat (first | (with_reducible first | exact HB.out | apply below_alloc | apply pw_below_drewN | apply below_drew1 | refine below_set ?_ GE314.out | refine below_set ?_ GE318.out) | exact HB.out)⟩
                            · rw [if_neg c21] at H
                              exact absurd H (by simp)
                          · rw [if_neg c20] at H
                            exact absurd H (by simp)
                        · rw [if_neg c19] at H
                          have c19b0 : decide (x41_3 < ((rd_L3 l0_2 x32_2).length : Int)) = false := decide_eq_false c19
                          clear c19
                          have H' := Aside0.mk H
                          clear H
                          go_wp2
                          go_roundg k3
                          case measure => have := HJ1.out; have := HK2.out; have := HK3.out; omega
                          case rel => exact ⟨(wrap64 (x32_2 + 1)), (by first | rfl | (simp; done) | (simp [*]; done)), H', ⟨by have := HJ1.out; have := HK2.out; have := HK3.out; omega⟩, ⟨by (with_reducible repeat (first | refine blk_drewN ?_ _ | refine blk_drew ?_ | refine blk_alloc ?_ _)); exact BK314.out⟩, ⟨by repeat (first | (with_reducible first | exact HB.out | apply below_alloc | apply pw_below_drewN | apply below_drew1 | refine below_set ?_ GE314.out) | exact HB.out)⟩⟩
                  · replace c17 := Bool.eq_false_iff.mpr c17
                    subst c17
                    have H1 : (some false) = some r := by rw [if_neg (show ¬ (false = true) by decide)] at H; exact H
                    clear H
                    have H := H1
                    clear H1
                    obtain rfl := Option.some.inj H
                    have p315 : 0 ≤ (x32_2 : Int) := of_decide_eq_true (by first | (with_reducible assumption) | assumption)
                    have q315 : x32_2 < (l0_2.length : Int) := of_decide_eq_true (by first | (with_reducible assumption) | assumption)
                    obtain ⟨ad315, A315_0, c315_0, e315, hx315_0, hl315_0, hi315_0⟩ := at_L3 HR0_2.out x32_2 p315 q315
                    cases e315
                    replace hx315_0 := (HB.out.cell (World.block_lt_of_cell? w _ hx315_0)).trans hx315_0
                    have HR315_0 := Aside0.mk hi315_0
                    have HC315_0 := Aside0.mk hl315_0
                    clear hi315_0 hl315_0
                    replace p315 := eq_true p315
                    replace q315 := eq_true q315
                    go_wp2_with (first | ((with_reducible refine gate_callee (f := 19) rfl ?_); refine goesL_ (some 37) rfl rfl Try.func19 (by kernel_rfl) rfl #[.slice A315_0 (rd_L3 l0_2 x32_2).length c315_0] rfl (by (try simp only [List.map_toArray, List.map_cons, List.map_nil]); first | done | rfl | (simp only [List.length_drop, List.length_take]; rfl)) ?_; (with_reducible refine (code_Good.calls k2 _ _ (rd_L3 l0_2 x32_2) false _ ?side1 ?side2 A16.out).mono ?_); (case side1 => repeat (first | exact (Kd.C_below HR315_0.out HB.out) | (with_reducible refine Kd.C_alloc ?_ _) | (with_reducible refine Kd.C_drewN ?_ _) | (with_reducible refine Kd.C_drew ?_))); (case side2 => exact HC315_0.out); rintro e w126 ⟨rfl, hb⟩; refine ⟨_, rfl, ?_⟩; have n0_ := Aside0.mk (blk_below (g := gb314) (o := .cells #[.int .i64 a0_0, .int .i64 a0_1, .slice (some ad315) l0_2.length c0_2] 25 (0, 0)) (by (with_reducible repeat (first | refine blk_drewN ?_ _ | refine blk_drew ?_ | refine blk_alloc ?_ _)); exact BK314.out) hb); have n1_ := Aside0.mk (below_step (by repeat (first | (with_reducible first | exact HB.out | apply below_alloc | apply pw_below_drewN | apply below_drew1 | refine below_set ?_ GE314.out) | exact HB.out)) hb); clear BK314; clear HB; have BK314 := n0_; have HB := n1_; clear n0_ n1_; (try clear hb); (try clear hb2); (try clear hk); (try clear hi)))
                    go_ret
                    exact ⟨by first | rfl | (simp [errW_none, errW_some] <;> rfl) | (simp [*, errW_none, errW_some] <;> rfl), by repeat (first | (with_reducible first | exact HB.out | apply below_alloc | apply pw_below_drewN | apply below_drew1 | refine below_set ?_ GE314.out) | exact HB.out)⟩
                · rw [if_neg c15] at H
                  exact absurd H (by simp)
              · rw [if_neg c14] at H
                exact absurd H (by simp)
            · rw [if_neg c13] at H
              have c13b0 : decide (x32_2 < (l0_2.length : Int)) = false := decide_eq_false c13
              clear c13
              obtain rfl := Option.some.inj H
              go_wp2
              go_ret
              exact ⟨by first | rfl | (simp [errW_none, errW_some] <;> rfl) | (simp [*, errW_none, errW_some] <;> rfl), by repeat (first | (with_reducible first | exact HB.out | apply below_alloc | apply pw_below_drewN | apply below_drew1 | refine below_set ?_ GE314.out) | exact HB.out)⟩

end Go.Proofs.Yteajbeajkplplaa.PImageBytes
