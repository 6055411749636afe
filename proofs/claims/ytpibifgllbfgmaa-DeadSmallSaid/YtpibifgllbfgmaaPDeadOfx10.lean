/-
For DeadSmall: what the Go functions that it reaches compute, as plain Lean functions, and the walks that show it; conditions as each theorem states them. (Written by a program of this session on the kit's print.)
-/
-- PRINTED by print.py (a twelfth state) out of the translation. Not trusted: Lean checks it.
import Derived.Test.YtpibifgllbfgmaaPDeadOfx0
import Derived.Test.YtpibifgllbfgmaaPDeadOfx2
namespace Go.Proofs.Ytpibifgllbfgmaa.PDeadOf
open Go.RowKit Go.Proofs.YtpibifgllbfgmaaW.PrintWords Go.Proofs.YtpibifgllbfgmaaW.PrintLast Go.Proofs.YtpibifgllbfgmaaW.PrintMore
attribute [local go_sem] max2_int min2_int max_two min_two max_three min_three max_four min_four   -- for this text's walks alone
set_option linter.unusedVariables false
set_option linter.unusedSimpArgs false

/-! ### code_Values: function 24 -/
mutual
def code_Values.l0 : Nat → Int → List (S31) → Int → Int → Option (Int)
  | 0, _, _, _, _ => none
  | k + 1, x3, x10, x11, x12 => if x12 < x11 then (if 0 ≤ x12 then (if x12 < (x10.length : Int) then ((code_Defines.f ((rd_T31 x10 x12).f0) ((rd_T31 x10 x12).f1) ((rd_T31 x10 x12).f2) ((rd_T31 x10 x12).f3) ((rd_T31 x10 x12).f4) ((rd_T31 x10 x12).f5) ((rd_T31 x10 x12).f6) ((rd_T31 x10 x12).f7)).bind fun bt202 => (if bt202.2 = true then (code_Values.j1 k (mx x3 (wrap64 (bt202.1 + 1))) x10 x11 x12 ((rd_T31 x10 x12).f0) ((rd_T31 x10 x12).f1) ((rd_T31 x10 x12).f2) ((rd_T31 x10 x12).f3) ((rd_T31 x10 x12).f4) ((rd_T31 x10 x12).f5) ((rd_T31 x10 x12).f6) ((rd_T31 x10 x12).f7)) else (code_Values.j1 k x3 x10 x11 x12 ((rd_T31 x10 x12).f0) ((rd_T31 x10 x12).f1) ((rd_T31 x10 x12).f2) ((rd_T31 x10 x12).f3) ((rd_T31 x10 x12).f4) ((rd_T31 x10 x12).f5) ((rd_T31 x10 x12).f6) ((rd_T31 x10 x12).f7)))) else (none)) else (none)) else (some x3)
def code_Values.j1 : Nat → Int → List (S31) → Int → Int → Int → Int → Int → Int → Int → Int → Int → Int → Option (Int)
  | 0, _, _, _, _, _, _, _, _, _, _, _, _ => none
  | k + 1, x3, x10, x11, x12, x202000, x202001, x202002, x202003, x202004, x202005, x202006, x202007 => (code_Uses.f k x202000 x202001 x202002 x202003 x202004 x202005 x202006 x202007).bind fun t204 => (code_Values.l1 k x3 x10 x11 x12 t204 (t204.length : Int) 0)
def code_Values.l1 : Nat → Int → List (S31) → Int → Int → List Int → Int → Int → Option (Int)
  | 0, _, _, _, _, _, _, _ => none
  | k + 1, x3, x10, x11, x12, x27, x28, x29 => if x29 < x28 then (if 0 ≤ x29 then (if x29 < (x27.length : Int) then (code_Values.l1 k (mx x3 (wrap64 ((rd x27 x29) + 1))) x10 x11 x12 x27 x28 (wrap64 (x29 + 1))) else (none)) else (none)) else (code_Values.l0 k x3 x10 x11 (wrap64 (x12 + 1)))
end
def code_Values.f (k : Nat) (l0 : List (S31)) : Option (Int) := code_Values.l0 k 0 l0 (l0.length : Int) 0
theorem code_Values.mono_l : ∀ k, (∀ y0 y1 y2 y3, LeO (code_Values.l0 k y0 y1 y2 y3) (code_Values.l0 (k + 1) y0 y1 y2 y3)) ∧ (∀ y0 y1 y2 y3 y4 y5 y6 y7 y8 y9 y10 y11, LeO (code_Values.j1 k y0 y1 y2 y3 y4 y5 y6 y7 y8 y9 y10 y11) (code_Values.j1 (k + 1) y0 y1 y2 y3 y4 y5 y6 y7 y8 y9 y10 y11)) ∧ (∀ y0 y1 y2 y3 y4 y5 y6, LeO (code_Values.l1 k y0 y1 y2 y3 y4 y5 y6) (code_Values.l1 (k + 1) y0 y1 y2 y3 y4 y5 y6))
  | 0 => ⟨fun _ _ _ _ r h => by simp [code_Values.l0] at h, fun _ _ _ _ _ _ _ _ _ _ _ _ r h => by simp [code_Values.j1] at h, fun _ _ _ _ _ _ _ r h => by simp [code_Values.l1] at h⟩
  | k + 1 => by
    obtain ⟨ih0, ih1, ih2⟩ := code_Values.mono_l k
    refine ⟨?_, ?_, ?_⟩
    · intro y0 y1 y2 y3
      unfold code_Values.l0
      repeat' first
      | (with_reducible exact ih0 _ _ _ _)
      | (with_reducible exact ih1 _ _ _ _ _ _ _ _ _ _ _ _)
      | (with_reducible exact ih2 _ _ _ _ _ _ _)
      | (with_reducible exact code_Uses.mono _ _ _ _ _ _ _ _ _)
      | (with_reducible exact LeO.refl _)
      | (with_reducible exact LeO.none _)
      | (with_reducible refine LeO.ite ?_ ?_)
      | (with_reducible refine LeO.bind ?_ (fun _ => ?_))
      | exact ih0 _ _ _ _
      | exact ih1 _ _ _ _ _ _ _ _ _ _ _ _
      | exact ih2 _ _ _ _ _ _ _
      | exact code_Uses.mono _ _ _ _ _ _ _ _ _
      | exact LeO.none _
      | refine LeO.ite ?_ ?_
      | refine LeO.bind ?_ (fun _ => ?_)
    · intro y0 y1 y2 y3 y4 y5 y6 y7 y8 y9 y10 y11
      unfold code_Values.j1
      repeat' first
      | (with_reducible exact ih0 _ _ _ _)
      | (with_reducible exact ih1 _ _ _ _ _ _ _ _ _ _ _ _)
      | (with_reducible exact ih2 _ _ _ _ _ _ _)
      | (with_reducible exact code_Uses.mono _ _ _ _ _ _ _ _ _)
      | (with_reducible exact LeO.refl _)
      | (with_reducible exact LeO.none _)
      | (with_reducible refine LeO.ite ?_ ?_)
      | (with_reducible refine LeO.bind ?_ (fun _ => ?_))
      | exact ih0 _ _ _ _
      | exact ih1 _ _ _ _ _ _ _ _ _ _ _ _
      | exact ih2 _ _ _ _ _ _ _
      | exact code_Uses.mono _ _ _ _ _ _ _ _ _
      | exact LeO.none _
      | refine LeO.ite ?_ ?_
      | refine LeO.bind ?_ (fun _ => ?_)
    · intro y0 y1 y2 y3 y4 y5 y6
      unfold code_Values.l1
      repeat' first
      | (with_reducible exact ih0 _ _ _ _)
      | (with_reducible exact ih1 _ _ _ _ _ _ _ _ _ _ _ _)
      | (with_reducible exact ih2 _ _ _ _ _ _ _)
      | (with_reducible exact code_Uses.mono _ _ _ _ _ _ _ _ _)
      | (with_reducible exact LeO.refl _)
      | (with_reducible exact LeO.none _)
      | (with_reducible refine LeO.ite ?_ ?_)
      | (with_reducible refine LeO.bind ?_ (fun _ => ?_))
      | exact ih0 _ _ _ _
      | exact ih1 _ _ _ _ _ _ _ _ _ _ _ _
      | exact ih2 _ _ _ _ _ _ _
      | exact code_Uses.mono _ _ _ _ _ _ _ _ _
      | exact LeO.none _
      | refine LeO.ite ?_ ?_
      | refine LeO.bind ?_ (fun _ => ?_)
theorem code_Values.mono : ∀ a0 k, LeO (code_Values.f k a0) (code_Values.f (k + 1) a0) := by
  intro a0 k
  obtain ⟨ih0, ih1, ih2⟩ := code_Values.mono_l k
  unfold code_Values.f
  repeat' first
      | (with_reducible exact ih0 _ _ _ _)
      | (with_reducible exact ih1 _ _ _ _ _ _ _ _ _ _ _ _)
      | (with_reducible exact ih2 _ _ _ _ _ _ _)
      | (with_reducible exact code_Uses.mono _ _ _ _ _ _ _ _ _)
      | (with_reducible exact LeO.refl _)
      | (with_reducible exact LeO.none _)
      | (with_reducible refine LeO.ite ?_ ?_)
      | (with_reducible refine LeO.bind ?_ (fun _ => ?_))
      | exact ih0 _ _ _ _
      | exact ih1 _ _ _ _ _ _ _ _ _ _ _ _
      | exact ih2 _ _ _ _ _ _ _
      | exact code_Uses.mono _ _ _ _ _ _ _ _ _
      | exact LeO.none _
      | refine LeO.ite ?_ ?_
      | refine LeO.bind ?_ (fun _ => ?_)
set_option maxHeartbeats 8000000 in
set_option maxRecDepth 100000 in
theorem code_Values.calls (k : Nat) (A0 : Option Addr) (c0 : Nat) (l0 : List (S31)) (r : Int) (w : World) (hr0 : Kd.C k31 w A0 l0.length l0) (hc0 : l0.length ≤ c0) (h : code_Values.f k l0 = some r) :
    Calls Try.prog 24 #[.slice A0 l0.length c0] w fun e w' => e = .returned (.int .i64 r) ∧ Below w.heap.size w w' := by
  have hu31 := Try.underlying31
  have HR0 := Aside0.mk hr0
  have HC0 := Aside0.mk hc0
  clear hr0 hc0
  have HB := Aside0.mk (Below.refl w.heap.size w)
  have H : (code_Values.l0 k 0 l0 (l0.length : Int) 0) = some r := h
  clear h
  have H' := Aside0.mk H
  clear H
  go_enter Try.func24, Try.ntmps24
  go_wp2
  go_loopg [3, 12] k (fun kq v3 v12 w' => ∃ (x3_1 : Int) (x12_1 : Int), v3 = .int .i64 x3_1 ∧ v12 = .int .i64 x12_1 ∧ Aside0 (code_Values.l0 kq x3_1 l0 (l0.length : Int) x12_1 = some r) ∧ Aside0 (kq ≤ k) ∧ Aside0 (Below w.heap.size w w'))
  case atStart => exact ⟨(0), (0), (by first | rfl | (simp; done) | (simp [*]; done)), (by first | rfl | (simp; done) | (simp [*]; done)), H', ⟨Nat.le_refl _⟩, ⟨by repeat (first | (with_reducible first | exact HB.out | apply below_alloc | apply pw_below_drewN | apply below_drew1) | exact HB.out)⟩⟩
  case round =>
    clear H'
    obtain ⟨x3_1, x12_1, rfl, rfl, HA, HK1, HB⟩ := hrel
    cases gk with
    | zero => exact absurd HA.out (by simp [code_Values.l0])
    | succ k1 =>
      have H := HA.out
      clear HA
      simp only [code_Values.l0] at H
      by_cases c2 : x12_1 < (l0.length : Int)
      · rw [if_pos c2] at H
        have c2b0 : decide (x12_1 < (l0.length : Int)) = true := decide_eq_true c2
        clear c2
        by_cases c3 : 0 ≤ x12_1
        · rw [if_pos c3] at H
          have c3b0 : decide (0 ≤ x12_1) = true := decide_eq_true c3
          clear c3
          by_cases c4 : x12_1 < (l0.length : Int)
          · rw [if_pos c4] at H
            have c4b0 : decide (x12_1 < (l0.length : Int)) = true := decide_eq_true c4
            clear c4
            replace H := Option.bind_eq_some_iff.mp H
            obtain ⟨⟨t202, t203⟩, A50, H⟩ := H
            replace H : (if t203 = true then (code_Values.j1 k1 (mx x3_1 (wrap64 (t202 + 1))) l0 (l0.length : Int) x12_1 ((rd_T31 l0 x12_1).f0) ((rd_T31 l0 x12_1).f1) ((rd_T31 l0 x12_1).f2) ((rd_T31 l0 x12_1).f3) ((rd_T31 l0 x12_1).f4) ((rd_T31 l0 x12_1).f5) ((rd_T31 l0 x12_1).f6) ((rd_T31 l0 x12_1).f7)) else (code_Values.j1 k1 x3_1 l0 (l0.length : Int) x12_1 ((rd_T31 l0 x12_1).f0) ((rd_T31 l0 x12_1).f1) ((rd_T31 l0 x12_1).f2) ((rd_T31 l0 x12_1).f3) ((rd_T31 l0 x12_1).f4) ((rd_T31 l0 x12_1).f5) ((rd_T31 l0 x12_1).f6) ((rd_T31 l0 x12_1).f7))) = some r := H
            have A5 := Aside0.mk A50
            clear A50
            have HC6 := Aside0.mk H
            clear H
            have p200 : 0 ≤ (x12_1 : Int) := of_decide_eq_true (by first | (with_reducible assumption) | assumption)
            have q200 : x12_1 < (l0.length : Int) := of_decide_eq_true (by first | (with_reducible assumption) | assumption)
            obtain ⟨ad200, e200, hx200_0, hx200_1, hx200_2, hx200_3, hx200_4, hx200_5, hx200_6, hx200_7⟩ := at_T31 HR0.out x12_1 p200 q200
            cases e200
            replace hx200_0 := (HB.out.cell (World.block_lt_of_cell? w _ hx200_0)).trans hx200_0
            replace hx200_1 := (HB.out.cell (World.block_lt_of_cell? w _ hx200_1)).trans hx200_1
            replace hx200_2 := (HB.out.cell (World.block_lt_of_cell? w _ hx200_2)).trans hx200_2
            replace hx200_3 := (HB.out.cell (World.block_lt_of_cell? w _ hx200_3)).trans hx200_3
            replace hx200_4 := (HB.out.cell (World.block_lt_of_cell? w _ hx200_4)).trans hx200_4
            replace hx200_5 := (HB.out.cell (World.block_lt_of_cell? w _ hx200_5)).trans hx200_5
            replace hx200_6 := (HB.out.cell (World.block_lt_of_cell? w _ hx200_6)).trans hx200_6
            replace hx200_7 := (HB.out.cell (World.block_lt_of_cell? w _ hx200_7)).trans hx200_7
            replace p200 := eq_true p200
            replace q200 := eq_true q200
            go_upto_if 21 with (first | ((with_reducible refine gate_dst (N := 5) rfl ?_); refine box_event ?hg (N := 5) ?hd (cs := #[.int .i64 0, .int .i64 0, .int .i64 0, .int .i64 0, .int .i64 0, .int .i64 0, .int .u64 0, .int .i64 0]) (t := 31) ?hr ?_; (case hd => rfl); (case hg => rfl); (case hr => first | (go_simp; done) | (go_simp; rfl)); intro gb201 hg w7 hbox hb; have n0_ := Aside0.mk (below_step (by repeat (first | (with_reducible first | exact HB.out | apply below_alloc | apply pw_below_drewN | apply below_drew1) | exact HB.out)) hb); have n1_ := Aside0.mk (hbox); have n2_ := Aside0.mk ((by rw [hg]; exact (below_size (by repeat (first | (with_reducible first | exact HB.out | apply below_alloc | apply pw_below_drewN | apply below_drew1) | exact HB.out))) : w.heap.size ≤ gb201)); have n3_ := Aside0.mk ((by rw [hg]; exact (below_size (by repeat (first | (with_reducible first | exact HB.out | apply below_alloc | apply pw_below_drewN | apply below_drew1) | exact HB.out))) : w.heap.size ≤ gb201)); clear HB; have HB := n0_; have BK201 := n1_; have GW201 := n2_; have GE201 := n3_; clear n0_ n1_ n2_ n3_; clear hb hbox hg; have hcz8_0 : w7.cell? ⟨gb201, 0, none⟩ = some (.int .i64 0) := (blk_cell BK201.out 0).trans rfl; have hcz8_1 : w7.cell? ⟨gb201, 1, none⟩ = some (.int .i64 0) := (blk_cell BK201.out 1).trans rfl; have hcz8_2 : w7.cell? ⟨gb201, 2, none⟩ = some (.int .i64 0) := (blk_cell BK201.out 2).trans rfl; have hcz8_3 : w7.cell? ⟨gb201, 3, none⟩ = some (.int .i64 0) := (blk_cell BK201.out 3).trans rfl; have hcz8_4 : w7.cell? ⟨gb201, 4, none⟩ = some (.int .i64 0) := (blk_cell BK201.out 4).trans rfl; have hcz8_5 : w7.cell? ⟨gb201, 5, none⟩ = some (.int .i64 0) := (blk_cell BK201.out 5).trans rfl; have hcz8_6 : w7.cell? ⟨gb201, 6, none⟩ = some (.int .u64 0) := (blk_cell BK201.out 6).trans rfl; have hcz8_7 : w7.cell? ⟨gb201, 7, none⟩ = some (.int .i64 0) := (blk_cell BK201.out 7).trans rfl; have hfz8_0 := blk_frozen BK201.out 0; have hfz8_1 := blk_frozen BK201.out 1; have hfz8_2 := blk_frozen BK201.out 2; have hfz8_3 := blk_frozen BK201.out 3; have hfz8_4 := blk_frozen BK201.out 4; have hfz8_5 := blk_frozen BK201.out 5; have hfz8_6 := blk_frozen BK201.out 6; have hfz8_7 := blk_frozen BK201.out 7) | ((with_reducible refine gate_callee (f := 21) rfl ?_); refine goesL_ (some 18) rfl rfl Try.func21 (by kernel_rfl) rfl #[.agg #[.int .i64 ((rd_T31 l0 x12_1).f0), .int .i64 ((rd_T31 l0 x12_1).f1), .int .i64 ((rd_T31 l0 x12_1).f2), .int .i64 ((rd_T31 l0 x12_1).f3), .int .i64 ((rd_T31 l0 x12_1).f4), .int .i64 ((rd_T31 l0 x12_1).f5), .int .u64 ((rd_T31 l0 x12_1).f6), .int .i64 ((rd_T31 l0 x12_1).f7)]] rfl (by (try simp only [List.map_toArray, List.map_cons, List.map_nil]); first | done | rfl | (simp only [List.length_drop, List.length_take]; rfl)) ?_; (with_reducible refine (code_Defines.calls ((rd_T31 l0 x12_1).f0) ((rd_T31 l0 x12_1).f1) ((rd_T31 l0 x12_1).f2) ((rd_T31 l0 x12_1).f3) ((rd_T31 l0 x12_1).f4) ((rd_T31 l0 x12_1).f5) ((rd_T31 l0 x12_1).f6) ((rd_T31 l0 x12_1).f7) t202 t203 _ A5.out).mono ?_); rintro e w9 ⟨rfl, hb⟩; refine ⟨_, rfl, ?_⟩; have n0_ := Aside0.mk (blk_below (g := gb201) (o := .cells #[.int .i64 ((rd_T31 l0 x12_1).f0), .int .i64 ((rd_T31 l0 x12_1).f1), .int .i64 ((rd_T31 l0 x12_1).f2), .int .i64 ((rd_T31 l0 x12_1).f3), .int .i64 ((rd_T31 l0 x12_1).f4), .int .i64 ((rd_T31 l0 x12_1).f5), .int .u64 ((rd_T31 l0 x12_1).f6), .int .i64 ((rd_T31 l0 x12_1).f7)] 31 (0, 0)) (by (with_reducible repeat (first | refine blk_drewN ?_ _ | refine blk_drew ?_ | refine blk_alloc ?_ _)); refine blk_put (cs := #[.int .i64 ((rd_T31 l0 x12_1).f0), .int .i64 ((rd_T31 l0 x12_1).f1), .int .i64 ((rd_T31 l0 x12_1).f2), .int .i64 ((rd_T31 l0 x12_1).f3), .int .i64 ((rd_T31 l0 x12_1).f4), .int .i64 ((rd_T31 l0 x12_1).f5), .int .u64 ((rd_T31 l0 x12_1).f6), .int .i64 0]) ?_ 7 _ rfl; (with_reducible repeat (first | refine blk_drewN ?_ _ | refine blk_drew ?_ | refine blk_alloc ?_ _)); refine blk_put (cs := #[.int .i64 ((rd_T31 l0 x12_1).f0), .int .i64 ((rd_T31 l0 x12_1).f1), .int .i64 ((rd_T31 l0 x12_1).f2), .int .i64 ((rd_T31 l0 x12_1).f3), .int .i64 ((rd_T31 l0 x12_1).f4), .int .i64 ((rd_T31 l0 x12_1).f5), .int .u64 0, .int .i64 0]) ?_ 6 _ rfl; (with_reducible repeat (first | refine blk_drewN ?_ _ | refine blk_drew ?_ | refine blk_alloc ?_ _)); refine blk_put (cs := #[.int .i64 ((rd_T31 l0 x12_1).f0), .int .i64 ((rd_T31 l0 x12_1).f1), .int .i64 ((rd_T31 l0 x12_1).f2), .int .i64 ((rd_T31 l0 x12_1).f3), .int .i64 ((rd_T31 l0 x12_1).f4), .int .i64 0, .int .u64 0, .int .i64 0]) ?_ 5 _ rfl; (with_reducible repeat (first | refine blk_drewN ?_ _ | refine blk_drew ?_ | refine blk_alloc ?_ _)); refine blk_put (cs := #[.int .i64 ((rd_T31 l0 x12_1).f0), .int .i64 ((rd_T31 l0 x12_1).f1), .int .i64 ((rd_T31 l0 x12_1).f2), .int .i64 ((rd_T31 l0 x12_1).f3), .int .i64 0, .int .i64 0, .int .u64 0, .int .i64 0]) ?_ 4 _ rfl; (with_reducible repeat (first | refine blk_drewN ?_ _ | refine blk_drew ?_ | refine blk_alloc ?_ _)); refine blk_put (cs := #[.int .i64 ((rd_T31 l0 x12_1).f0), .int .i64 ((rd_T31 l0 x12_1).f1), .int .i64 ((rd_T31 l0 x12_1).f2), .int .i64 0, .int .i64 0, .int .i64 0, .int .u64 0, .int .i64 0]) ?_ 3 _ rfl; (with_reducible repeat (first | refine blk_drewN ?_ _ | refine blk_drew ?_ | refine blk_alloc ?_ _)); refine blk_put (cs := #[.int .i64 ((rd_T31 l0 x12_1).f0), .int .i64 ((rd_T31 l0 x12_1).f1), .int .i64 0, .int .i64 0, .int .i64 0, .int .i64 0, .int .u64 0, .int .i64 0]) ?_ 2 _ rfl; (with_reducible repeat (first | refine blk_drewN ?_ _ | refine blk_drew ?_ | refine blk_alloc ?_ _)); refine blk_put (cs := #[.int .i64 ((rd_T31 l0 x12_1).f0), .int .i64 0, .int .i64 0, .int .i64 0, .int .i64 0, .int .i64 0, .int .u64 0, .int .i64 0]) ?_ 1 _ rfl; (with_reducible repeat (first | refine blk_drewN ?_ _ | refine blk_drew ?_ | refine blk_alloc ?_ _)); refine blk_put (cs := #[.int .i64 0, .int .i64 0, .int .i64 0, .int .i64 0, .int .i64 0, .int .i64 0, .int .u64 0, .int .i64 0]) ?_ 0 _ rfl; (with_reducible repeat (first | refine blk_drewN ?_ _ | refine blk_drew ?_ | refine blk_alloc ?_ _)); exact BK201.out) hb); have n1_ := Aside0.mk (below_step (by repeat (first | (with_reducible first | exact HB.out | apply below_alloc | apply pw_below_drewN | apply below_drew1 | refine below_set ?_ GE201.out) | exact HB.out)) hb); clear BK201; clear HB; have BK201 := n0_; have HB := n1_; clear n0_ n1_; (try clear hb); (try clear hb2); (try clear hk); (try clear hi)))
            (try simp only [Act.put, List.setIfInBounds_toArray, List.set_cons_zero, List.set_cons_succ])
            go_cut [3] (fun v3 wc => ∃ (kq : Nat) (x3_5 : Int), v3 = .int .i64 x3_5 ∧ Aside0 (code_Values.j1 kq x3_5 l0 (l0.length : Int) x12_1 ((rd_T31 l0 x12_1).f0) ((rd_T31 l0 x12_1).f1) ((rd_T31 l0 x12_1).f2) ((rd_T31 l0 x12_1).f3) ((rd_T31 l0 x12_1).f4) ((rd_T31 l0 x12_1).f5) ((rd_T31 l0 x12_1).f6) ((rd_T31 l0 x12_1).f7) = some r) ∧ Aside0 (kq ≤ k1) ∧ Aside0 (wc.heap[gb201]? = some (.cells #[.int .i64 ((rd_T31 l0 x12_1).f0), .int .i64 ((rd_T31 l0 x12_1).f1), .int .i64 ((rd_T31 l0 x12_1).f2), .int .i64 ((rd_T31 l0 x12_1).f3), .int .i64 ((rd_T31 l0 x12_1).f4), .int .i64 ((rd_T31 l0 x12_1).f5), .int .u64 ((rd_T31 l0 x12_1).f6), .int .i64 ((rd_T31 l0 x12_1).f7)] 31 (0, 0))) ∧ Aside0 (Below w.heap.size w wc))
            case first =>
              have H := HC6.out
              clear HC6
              by_cases c10 : t203 = true
              · subst c10
                have H1 : (code_Values.j1 k1 (mx x3_1 (wrap64 (t202 + 1))) l0 (l0.length : Int) x12_1 ((rd_T31 l0 x12_1).f0) ((rd_T31 l0 x12_1).f1) ((rd_T31 l0 x12_1).f2) ((rd_T31 l0 x12_1).f3) ((rd_T31 l0 x12_1).f4) ((rd_T31 l0 x12_1).f5) ((rd_T31 l0 x12_1).f6) ((rd_T31 l0 x12_1).f7)) = some r := by rw [if_pos rfl] at H; exact H
                clear H
                have H := H1
                clear H1
                obtain ⟨ji11, hji11⟩ : ∃ j_ : Int, (mx x3_1 (wrap64 (t202 + 1))) = j_ := ⟨_, rfl⟩
                replace H : (code_Values.j1 k1 ji11 l0 (l0.length : Int) x12_1 ((rd_T31 l0 x12_1).f0) ((rd_T31 l0 x12_1).f1) ((rd_T31 l0 x12_1).f2) ((rd_T31 l0 x12_1).f3) ((rd_T31 l0 x12_1).f4) ((rd_T31 l0 x12_1).f5) ((rd_T31 l0 x12_1).f6) ((rd_T31 l0 x12_1).f7)) = some r := by first | (rw [hji11] at H; exact H) | (simp only [hji11] at H ⊢; exact H)
                have hji11_ : (if x3_1 < (wrap64 (t202 + 1)) then (wrap64 (t202 + 1)) else x3_1) = ji11 := hji11
                have H' := Aside0.mk H
                clear H
                go_wp2
                go_meet
                case rel => exact ⟨_, (ji11), (by first | rfl | (simp; done) | (simp only [← hji11] <;> (first | rfl | simp)) | (simp [*]; done)), H', ⟨by have := HK1.out; first | omega | exact Nat.le_refl _⟩, ⟨by (with_reducible repeat (first | refine blk_drewN ?_ _ | refine blk_drew ?_ | refine blk_alloc ?_ _)); exact BK201.out⟩, ⟨by repeat (first | (with_reducible first | exact HB.out | apply below_alloc | apply pw_below_drewN | apply below_drew1 | refine below_set ?_ GE201.out) | exact HB.out)⟩⟩
              · replace c10 := Bool.eq_false_iff.mpr c10
                subst c10
                have H1 : (code_Values.j1 k1 x3_1 l0 (l0.length : Int) x12_1 ((rd_T31 l0 x12_1).f0) ((rd_T31 l0 x12_1).f1) ((rd_T31 l0 x12_1).f2) ((rd_T31 l0 x12_1).f3) ((rd_T31 l0 x12_1).f4) ((rd_T31 l0 x12_1).f5) ((rd_T31 l0 x12_1).f6) ((rd_T31 l0 x12_1).f7)) = some r := by rw [if_neg (show ¬ (false = true) by decide)] at H; exact H
                clear H
                have H := H1
                clear H1
                have H' := Aside0.mk H
                clear H
                go_wp2
                go_meet
                case rel => exact ⟨_, (x3_1), (by first | rfl | (simp; done) | (simp [*]; done)), H', ⟨by have := HK1.out; first | omega | exact Nat.le_refl _⟩, ⟨by (with_reducible repeat (first | refine blk_drewN ?_ _ | refine blk_drew ?_ | refine blk_alloc ?_ _)); exact BK201.out⟩, ⟨by repeat (first | (with_reducible first | exact HB.out | apply below_alloc | apply pw_below_drewN | apply below_drew1 | refine below_set ?_ GE201.out) | exact HB.out)⟩⟩
            case rest =>
              clear HC6
              try clear c1
              try clear c2
              try clear c2b0
              try clear p2
              try clear q2
              try clear hx2
              try clear c3
              try clear c3b0
              try clear c4
              try clear c4b0
              try clear p6
              try clear c10
              try clear hcz8_0
              try clear hcz8_1
              try clear hcz8_2
              try clear hcz8_3
              try clear hcz8_4
              try clear hcz8_5
              try clear hcz8_6
              try clear hcz8_7
              try clear hfz8_0
              try clear hfz8_1
              try clear hfz8_2
              try clear hfz8_3
              try clear hfz8_4
              try clear hfz8_5
              try clear hfz8_6
              try clear hfz8_7
              try clear hx200_0
              try clear hx200_1
              try clear hx200_2
              try clear hx200_3
              try clear hx200_4
              try clear hx200_5
              try clear hx200_6
              try clear hx200_7
              try clear p200
              try clear q200
              obtain ⟨kq, x3_5, rfl, HA, HJ5, BK201, HB⟩ := hcut
              cases kq with
              | zero => exact absurd HA.out (by simp [code_Values.j1])
              | succ kj5 =>
                have H := HA.out
                clear HA
                simp only [code_Values.j1] at H
                replace H := Option.bind_eq_some_iff.mp H
                obtain ⟨t204, A120, H⟩ := H
                replace H : (code_Values.l1 kj5 x3_5 l0 (l0.length : Int) x12_1 t204 (t204.length : Int) 0) = some r := H
                have A12 := Aside0.mk A120
                clear A120
                have H' := Aside0.mk H
                clear H
                have hcz13_0 : wc.cell? ⟨gb201, 0, none⟩ = some (.int .i64 ((rd_T31 l0 x12_1).f0)) := (blk_cell BK201.out 0).trans rfl
                have hcz13_1 : wc.cell? ⟨gb201, 1, none⟩ = some (.int .i64 ((rd_T31 l0 x12_1).f1)) := (blk_cell BK201.out 1).trans rfl
                have hcz13_2 : wc.cell? ⟨gb201, 2, none⟩ = some (.int .i64 ((rd_T31 l0 x12_1).f2)) := (blk_cell BK201.out 2).trans rfl
                have hcz13_3 : wc.cell? ⟨gb201, 3, none⟩ = some (.int .i64 ((rd_T31 l0 x12_1).f3)) := (blk_cell BK201.out 3).trans rfl
                have hcz13_4 : wc.cell? ⟨gb201, 4, none⟩ = some (.int .i64 ((rd_T31 l0 x12_1).f4)) := (blk_cell BK201.out 4).trans rfl
                have hcz13_5 : wc.cell? ⟨gb201, 5, none⟩ = some (.int .i64 ((rd_T31 l0 x12_1).f5)) := (blk_cell BK201.out 5).trans rfl
                have hcz13_6 : wc.cell? ⟨gb201, 6, none⟩ = some (.int .u64 ((rd_T31 l0 x12_1).f6)) := (blk_cell BK201.out 6).trans rfl
                have hcz13_7 : wc.cell? ⟨gb201, 7, none⟩ = some (.int .i64 ((rd_T31 l0 x12_1).f7)) := (blk_cell BK201.out 7).trans rfl
                have hfz13_0 := blk_frozen BK201.out 0
                have hfz13_1 := blk_frozen BK201.out 1
                have hfz13_2 := blk_frozen BK201.out 2
                have hfz13_3 := blk_frozen BK201.out 3
                have hfz13_4 := blk_frozen BK201.out 4
                have hfz13_5 := blk_frozen BK201.out 5
                have hfz13_6 := blk_frozen BK201.out 6
                have hfz13_7 := blk_frozen BK201.out 7
                go_wp2_with (first | ((with_reducible refine gate_callee (f := 22) rfl ?_); refine goesL_ (some 27) rfl rfl Try.func22 (by kernel_rfl) rfl #[.agg #[.int .i64 ((rd_T31 l0 x12_1).f0), .int .i64 ((rd_T31 l0 x12_1).f1), .int .i64 ((rd_T31 l0 x12_1).f2), .int .i64 ((rd_T31 l0 x12_1).f3), .int .i64 ((rd_T31 l0 x12_1).f4), .int .i64 ((rd_T31 l0 x12_1).f5), .int .u64 ((rd_T31 l0 x12_1).f6), .int .i64 ((rd_T31 l0 x12_1).f7)]] rfl (by (try simp only [List.map_toArray, List.map_cons, List.map_nil]); first | done | rfl | (simp only [List.length_drop, List.length_take]; rfl)) ?_; (with_reducible refine (code_Uses.calls kj5 ((rd_T31 l0 x12_1).f0) ((rd_T31 l0 x12_1).f1) ((rd_T31 l0 x12_1).f2) ((rd_T31 l0 x12_1).f3) ((rd_T31 l0 x12_1).f4) ((rd_T31 l0 x12_1).f5) ((rd_T31 l0 x12_1).f6) ((rd_T31 l0 x12_1).f7) t204 _ A12.out).mono ?_); rintro e w14 ⟨v205, rfl, ho0, hb⟩; refine ⟨_, rfl, ?_⟩; have n0_ := Aside0.mk (Kd.R_lower ho0 (below_size (by repeat (first | (with_reducible first | exact HB.out | apply below_alloc | apply pw_below_drewN | apply below_drew1 | refine below_set ?_ GE201.out) | exact HB.out)))); have n1_ := Aside0.mk (blk_below (g := gb201) (o := .cells #[.int .i64 ((rd_T31 l0 x12_1).f0), .int .i64 ((rd_T31 l0 x12_1).f1), .int .i64 ((rd_T31 l0 x12_1).f2), .int .i64 ((rd_T31 l0 x12_1).f3), .int .i64 ((rd_T31 l0 x12_1).f4), .int .i64 ((rd_T31 l0 x12_1).f5), .int .u64 ((rd_T31 l0 x12_1).f6), .int .i64 ((rd_T31 l0 x12_1).f7)] 31 (0, 0)) (by (with_reducible repeat (first | refine blk_drewN ?_ _ | refine blk_drew ?_ | refine blk_alloc ?_ _)); exact BK201.out) hb); have n2_ := Aside0.mk (below_step (by repeat (first | (with_reducible first | exact HB.out | apply below_alloc | apply pw_below_drewN | apply below_drew1 | refine below_set ?_ GE201.out) | exact HB.out)) hb); clear BK201; clear HB; have HO206 := n0_; have BK201 := n1_; have HB := n2_; clear n0_ n1_ n2_; (try clear hb); (try clear hb2); (try clear hk); (try clear hi); (try clear ho0); obtain ⟨Ao15, co15, eo15⟩ := Kd.R_slice HO206.out; subst eo15))
                go_loopg [3, 29] kj5 (fun kq v3 v29 w' => ∃ (x3_3 : Int) (x29_3 : Int), v3 = .int .i64 x3_3 ∧ v29 = .int .i64 x29_3 ∧ Aside0 (code_Values.l1 kq x3_3 l0 (l0.length : Int) x12_1 t204 (t204.length : Int) x29_3 = some r) ∧ Aside0 (kq ≤ kj5) ∧ Aside0 (Kd.R (Kd.int .i64) 3 w' w.heap.size (fun _ => True) (.slice Ao15 t204.length co15) t204) ∧ Aside0 (w'.heap[gb201]? = some (.cells #[.int .i64 ((rd_T31 l0 x12_1).f0), .int .i64 ((rd_T31 l0 x12_1).f1), .int .i64 ((rd_T31 l0 x12_1).f2), .int .i64 ((rd_T31 l0 x12_1).f3), .int .i64 ((rd_T31 l0 x12_1).f4), .int .i64 ((rd_T31 l0 x12_1).f5), .int .u64 ((rd_T31 l0 x12_1).f6), .int .i64 ((rd_T31 l0 x12_1).f7)] 31 (0, 0))) ∧ Aside0 (Below w.heap.size w w'))
                case atStart => exact ⟨(x3_5), (0), (by first | rfl | (simp; done) | (simp [*]; done)), (by first | rfl | (simp; done) | (simp [*]; done)), H', ⟨Nat.le_refl _⟩, ⟨by (with_reducible repeat (first | apply Kd.R_alloc | apply Kd.R_drewN | apply Kd.R_drew)); exact HO206.out⟩, ⟨by (with_reducible repeat (first | refine blk_drewN ?_ _ | refine blk_drew ?_ | refine blk_alloc ?_ _)); exact BK201.out⟩, ⟨by repeat (first | (with_reducible first | exact HB.out | apply below_alloc | apply pw_below_drewN | apply below_drew1 | refine below_set ?_ GE201.out) | exact HB.out)⟩⟩
                case round =>
                  clear H'
                  try clear c1
                  try clear c2
                  try clear c2b0
                  try clear p2
                  try clear q2
                  try clear hx2
                  try clear c3
                  try clear c3b0
                  try clear c4
                  try clear c4b0
                  try clear p6
                  try clear c10
                  try clear hcz13_0
                  try clear hcz13_1
                  try clear hcz13_2
                  try clear hcz13_3
                  try clear hcz13_4
                  try clear hcz13_5
                  try clear hcz13_6
                  try clear hcz13_7
                  try clear hcz8_0
                  try clear hcz8_1
                  try clear hcz8_2
                  try clear hcz8_3
                  try clear hcz8_4
                  try clear hcz8_5
                  try clear hcz8_6
                  try clear hcz8_7
                  try clear hfz13_0
                  try clear hfz13_1
                  try clear hfz13_2
                  try clear hfz13_3
                  try clear hfz13_4
                  try clear hfz13_5
                  try clear hfz13_6
                  try clear hfz13_7
                  try clear hfz8_0
                  try clear hfz8_1
                  try clear hfz8_2
                  try clear hfz8_3
                  try clear hfz8_4
                  try clear hfz8_5
                  try clear hfz8_6
                  try clear hfz8_7
                  try clear hx200_0
                  try clear hx200_1
                  try clear hx200_2
                  try clear hx200_3
                  try clear hx200_4
                  try clear hx200_5
                  try clear hx200_6
                  try clear hx200_7
                  try clear p2
                  try clear p200
                  try clear p6
                  try clear q2
                  try clear q200
                  obtain ⟨x3_3, x29_3, rfl, rfl, HA, HK3, HO_27, BK201, HB⟩ := hrel
                  cases gk with
                  | zero => exact absurd HA.out (by simp [code_Values.l1])
                  | succ k3 =>
                    have H := HA.out
                    clear HA
                    simp only [code_Values.l1] at H
                    by_cases c16 : x29_3 < (t204.length : Int)
                    · rw [if_pos c16] at H
                      have c16b0 : decide (x29_3 < (t204.length : Int)) = true := decide_eq_true c16
                      clear c16
                      by_cases c17 : 0 ≤ x29_3
                      · rw [if_pos c17] at H
                        have c17b0 : decide (0 ≤ x29_3) = true := decide_eq_true c17
                        clear c17
                        by_cases c18 : x29_3 < (t204.length : Int)
                        · rw [if_pos c18] at H
                          have c18b0 : decide (x29_3 < (t204.length : Int)) = true := decide_eq_true c18
                          clear c18
                          obtain ⟨ji19, hji19⟩ : ∃ j_ : Int, (mx x3_3 (wrap64 ((rd t204 x29_3) + 1))) = j_ := ⟨_, rfl⟩
                          replace H : (code_Values.l1 k3 ji19 l0 (l0.length : Int) x12_1 t204 (t204.length : Int) (wrap64 (x29_3 + 1))) = some r := by first | (rw [hji19] at H; exact H) | (simp only [hji19] at H ⊢; exact H)
                          have hji19_ : (if x3_3 < (wrap64 ((rd t204 x29_3) + 1)) then (wrap64 ((rd t204 x29_3) + 1)) else x3_3) = ji19 := hji19
                          have H' := Aside0.mk H
                          clear H
                          have p207 : 0 ≤ (x29_3 : Int) := of_decide_eq_true (by first | (with_reducible assumption) | assumption)
                          have q207 : x29_3 < (t204.length : Int) := of_decide_eq_true (by first | (with_reducible assumption) | assumption)
                          obtain ⟨ad207, e207, hx207_0⟩ := Kd.at_int (Kd.R_reads' HO_27.out).2.2 x29_3 p207 q207
                          cases e207
                          replace p207 := eq_true p207
                          replace q207 := eq_true q207
                          go_wp2
                          go_roundg k3
                          case measure => have := HK1.out; have := HJ5.out; have := HK3.out; omega
                          case rel => exact ⟨(ji19), (wrap64 (x29_3 + 1)), (by first | rfl | (simp; done) | (simp only [← hji19] <;> (first | rfl | simp)) | (simp [*]; done)), (by first | rfl | (simp; done) | (simp [*]; done)), H', ⟨by have := HK1.out; have := HJ5.out; have := HK3.out; omega⟩, ⟨by (with_reducible repeat (first | apply Kd.R_alloc | apply Kd.R_drewN | apply Kd.R_drew)); exact HO_27.out⟩, ⟨by (with_reducible repeat (first | refine blk_drewN ?_ _ | refine blk_drew ?_ | refine blk_alloc ?_ _)); exact BK201.out⟩, ⟨by repeat (first | (with_reducible first | exact HB.out | apply below_alloc | apply pw_below_drewN | apply below_drew1 | refine below_set ?_ GE201.out) | exact HB.out)⟩⟩
                        · rw [if_neg c18] at H
                          exact absurd H (by simp)
                      · rw [if_neg c17] at H
                        exact absurd H (by simp)
                    · rw [if_neg c16] at H
                      have c16b0 : decide (x29_3 < (t204.length : Int)) = false := decide_eq_false c16
                      clear c16
                      have H' := Aside0.mk H
                      clear H
                      go_wp2
                      go_roundg k3
                      case measure => have := HK1.out; have := HJ5.out; have := HK3.out; omega
                      case rel => exact ⟨(x3_3), (wrap64 (x12_1 + 1)), (by first | rfl | (simp; done) | (simp [*]; done)), (by first | rfl | (simp; done) | (simp [*]; done)), H', ⟨by have := HK1.out; have := HJ5.out; have := HK3.out; omega⟩, ⟨by repeat (first | (with_reducible first | exact HB.out | apply below_alloc | apply pw_below_drewN | apply below_drew1 | refine below_set ?_ GE201.out) | exact HB.out)⟩⟩
          · rw [if_neg c4] at H
            exact absurd H (by simp)
        · rw [if_neg c3] at H
          exact absurd H (by simp)
      · rw [if_neg c2] at H
        have c2b0 : decide (x12_1 < (l0.length : Int)) = false := decide_eq_false c2
        clear c2
        obtain rfl := Option.some.inj H
        go_wp2
        go_ret
        exact ⟨by first | rfl | (simp [errW_none, errW_some] <;> rfl) | (simp [*, errW_none, errW_some] <;> rfl), by repeat (first | (with_reducible first | exact HB.out | apply below_alloc | apply pw_below_drewN | apply below_drew1) | exact HB.out)⟩

/-! ### word_truth: function 27 -/
def word_truth.f (a0 : Bool) : Option (Int) := if a0 = true then (some 1) else (some 0)
set_option maxHeartbeats 8000000 in
set_option maxRecDepth 100000 in
theorem word_truth.calls (a0 : Bool) (r : Int) (w : World) (h : word_truth.f a0 = some r) :
    Calls Try.prog 27 #[.bool a0] w fun e w' => e = .returned (.int .u64 r) ∧ Drawn0 w w' := by
  have H : (if a0 = true then (some 1) else (some 0)) = some r := h
  clear h
  by_cases c2 : a0 = true
  · subst c2
    have H1 : (some 1) = some r := by rw [if_pos rfl] at H; exact H
    clear H
    have H := H1
    clear H1
    obtain rfl := Option.some.inj H
    go_enter Try.func27, Try.ntmps27
    go_wp2
    go_ret
    exact ⟨by first | rfl | (simp; done) | (simp [*]; done), by repeat (first | exact Drawn0.refl _ | apply Drawn0.step)⟩
  · replace c2 := Bool.eq_false_iff.mpr c2
    subst c2
    have H1 : (some 0) = some r := by rw [if_neg (show ¬ (false = true) by decide)] at H; exact H
    clear H
    have H := H1
    clear H1
    obtain rfl := Option.some.inj H
    go_enter Try.func27, Try.ntmps27
    go_wp2
    go_ret
    exact ⟨by first | rfl | (simp; done) | (simp [*]; done), by repeat (first | exact Drawn0.refl _ | apply Drawn0.step)⟩

/-! ### word_Apply: function 25 -/
def word_Apply.f (a0 : Int) (a1 : Int) (a2 : Int) : Option (Int) := if a0 = 0 then (some (IntKind.u64.wrap (a1 + a2))) else (if a0 = 1 then (some (IntKind.u64.wrap (a1 - a2))) else (if a0 = 2 then (some (IntKind.u64.wrap (a1 * a2))) else (if a0 = 3 then (some (Go.bits .and .u64 a1 a2)) else (if a0 = 4 then (some (Go.bits .or .u64 a1 a2)) else (if a0 = 5 then (some (Go.bits .xor .u64 a1 a2)) else (if a0 = 6 then (if 0 ≤ (Int.tmod a2 64) then (some (shl .u64 a1 (Int.tmod a2 64))) else (none)) else (if a0 = 7 then (if 0 ≤ (Int.tmod a2 64) then (some (shr .u64 a1 (Int.tmod a2 64))) else (none)) else (if a0 = 8 then ((word_truth.f (a1 == a2)).bind fun t208 => (some t208)) else (if a0 = 9 then ((word_truth.f (decide (a1 < a2))).bind fun t209 => (some t209)) else (some 0))))))))))
set_option maxHeartbeats 8000000 in
set_option maxRecDepth 100000 in
theorem word_Apply.calls (a0 : Int) (a1 : Int) (a2 : Int) (r : Int) (w : World) (h : word_Apply.f a0 a1 a2 = some r) :
    Calls Try.prog 25 #[.int .i64 a0, .int .u64 a1, .int .u64 a2] w fun e w' => e = .returned (.int .u64 r) ∧ Drawn0 w w' := by
  have H : (if a0 = 0 then (some (IntKind.u64.wrap (a1 + a2))) else (if a0 = 1 then (some (IntKind.u64.wrap (a1 - a2))) else (if a0 = 2 then (some (IntKind.u64.wrap (a1 * a2))) else (if a0 = 3 then (some (Go.bits .and .u64 a1 a2)) else (if a0 = 4 then (some (Go.bits .or .u64 a1 a2)) else (if a0 = 5 then (some (Go.bits .xor .u64 a1 a2)) else (if a0 = 6 then (if 0 ≤ (Int.tmod a2 64) then (some (shl .u64 a1 (Int.tmod a2 64))) else (none)) else (if a0 = 7 then (if 0 ≤ (Int.tmod a2 64) then (some (shr .u64 a1 (Int.tmod a2 64))) else (none)) else (if a0 = 8 then ((word_truth.f (a1 == a2)).bind fun t208 => (some t208)) else (if a0 = 9 then ((word_truth.f (decide (a1 < a2))).bind fun t209 => (some t209)) else (some 0))))))))))) = some r := h
  clear h
  by_cases c4 : a0 = 0
  · rw [if_pos c4] at H
    have c4b0 : (a0 == 0) = true := beq_iff_eq.mpr c4
    have c4b1 : (a0 != 0) = false := bne_eq_false_iff_eq.mpr c4
    clear c4
    obtain rfl := Option.some.inj H
    go_enter Try.func25, Try.ntmps25
    go_wp2
    go_ret
    exact ⟨by first | rfl | (simp; done) | (simp [*]; done), by repeat (first | exact Drawn0.refl _ | apply Drawn0.step)⟩
  · rw [if_neg c4] at H
    have c4b0 : (a0 == 0) = false := beq_eq_false_iff_ne.mpr c4
    have c4b1 : (a0 != 0) = true := bne_iff_ne.mpr c4
    by_cases c5 : a0 = 1
    · rw [if_pos c5] at H
      have c5b0 : (a0 == 1) = true := beq_iff_eq.mpr c5
      have c5b1 : (a0 != 1) = false := bne_eq_false_iff_eq.mpr c5
      clear c5
      obtain rfl := Option.some.inj H
      go_enter Try.func25, Try.ntmps25
      go_wp2
      go_ret
      exact ⟨by first | rfl | (simp; done) | (simp [*]; done), by repeat (first | exact Drawn0.refl _ | apply Drawn0.step)⟩
    · rw [if_neg c5] at H
      have c5b0 : (a0 == 1) = false := beq_eq_false_iff_ne.mpr c5
      have c5b1 : (a0 != 1) = true := bne_iff_ne.mpr c5
      by_cases c6 : a0 = 2
      · rw [if_pos c6] at H
        have c6b0 : (a0 == 2) = true := beq_iff_eq.mpr c6
        have c6b1 : (a0 != 2) = false := bne_eq_false_iff_eq.mpr c6
        clear c6
        obtain rfl := Option.some.inj H
        go_enter Try.func25, Try.ntmps25
        go_wp2
        go_ret
        exact ⟨by first | rfl | (simp; done) | (simp [*]; done), by repeat (first | exact Drawn0.refl _ | apply Drawn0.step)⟩
      · rw [if_neg c6] at H
        have c6b0 : (a0 == 2) = false := beq_eq_false_iff_ne.mpr c6
        have c6b1 : (a0 != 2) = true := bne_iff_ne.mpr c6
        by_cases c7 : a0 = 3
        · rw [if_pos c7] at H
          have c7b0 : (a0 == 3) = true := beq_iff_eq.mpr c7
          have c7b1 : (a0 != 3) = false := bne_eq_false_iff_eq.mpr c7
          clear c7
          obtain rfl := Option.some.inj H
          go_enter Try.func25, Try.ntmps25
          go_wp2
          go_ret
          exact ⟨by first | rfl | (simp; done) | (simp [*]; done), by repeat (first | exact Drawn0.refl _ | apply Drawn0.step)⟩
        · rw [if_neg c7] at H
          have c7b0 : (a0 == 3) = false := beq_eq_false_iff_ne.mpr c7
          have c7b1 : (a0 != 3) = true := bne_iff_ne.mpr c7
          by_cases c8 : a0 = 4
          · rw [if_pos c8] at H
            have c8b0 : (a0 == 4) = true := beq_iff_eq.mpr c8
            have c8b1 : (a0 != 4) = false := bne_eq_false_iff_eq.mpr c8
            clear c8
            obtain rfl := Option.some.inj H
            go_enter Try.func25, Try.ntmps25
            go_wp2
            go_ret
            exact ⟨by first | rfl | (simp; done) | (simp [*]; done), by repeat (first | exact Drawn0.refl _ | apply Drawn0.step)⟩
          · rw [if_neg c8] at H
            have c8b0 : (a0 == 4) = false := beq_eq_false_iff_ne.mpr c8
            have c8b1 : (a0 != 4) = true := bne_iff_ne.mpr c8
            by_cases c9 : a0 = 5
            · rw [if_pos c9] at H
              have c9b0 : (a0 == 5) = true := beq_iff_eq.mpr c9
              have c9b1 : (a0 != 5) = false := bne_eq_false_iff_eq.mpr c9
              clear c9
              obtain rfl := Option.some.inj H
              go_enter Try.func25, Try.ntmps25
              go_wp2
              go_ret
              exact ⟨by first | rfl | (simp; done) | (simp [*]; done), by repeat (first | exact Drawn0.refl _ | apply Drawn0.step)⟩
            · rw [if_neg c9] at H
              have c9b0 : (a0 == 5) = false := beq_eq_false_iff_ne.mpr c9
              have c9b1 : (a0 != 5) = true := bne_iff_ne.mpr c9
              by_cases c10 : a0 = 6
              · rw [if_pos c10] at H
                have c10b0 : (a0 == 6) = true := beq_iff_eq.mpr c10
                have c10b1 : (a0 != 6) = false := bne_eq_false_iff_eq.mpr c10
                clear c10
                obtain ⟨ji11, hji11⟩ : ∃ j_ : Int, (Int.tmod a2 64) = j_ := ⟨_, rfl⟩
                replace H : (if 0 ≤ (ji11) then (some (shl .u64 a1 (ji11))) else (none)) = some r := by first | (rw [hji11] at H; exact H) | (simp only [hji11] at H ⊢; exact H)
                by_cases c12 : 0 ≤ (ji11)
                · rw [if_pos c12] at H
                  have c12b0 := eq_true c12
                  have c12b1 : decide (0 ≤ (ji11)) = true := decide_eq_true c12
                  clear c12
                  obtain ⟨ji13, hji13⟩ : ∃ j_ : Int, (shl .u64 a1 (ji11)) = j_ := ⟨_, rfl⟩
                  replace H : (some ji13) = some r := by first | (rw [hji13] at H; exact H) | (simp only [hji13] at H ⊢; exact H)
                  have hji13_ : (IntKind.u64.wrap (a1 * 2 ^ min (ji11).toNat 64)) = ji13 := hji13
                  have hji13z : (ji11) ≤ 64 → (IntKind.u64.wrap (a1 * 2 ^ (ji11).toNat)) = ji13 := shl_small hji13
                  obtain rfl := Option.some.inj H
                  go_enter Try.func25, Try.ntmps25
                  go_wp2
                  go_ret
                  exact ⟨by first | rfl | (simp; done) | (simp only [← hji11, ← hji13] <;> (first | rfl | simp)) | (simp [*]; done), by repeat (first | exact Drawn0.refl _ | apply Drawn0.step)⟩
                · rw [if_neg c12] at H
                  exact absurd H (by simp)
              · rw [if_neg c10] at H
                have c10b0 : (a0 == 6) = false := beq_eq_false_iff_ne.mpr c10
                have c10b1 : (a0 != 6) = true := bne_iff_ne.mpr c10
                by_cases c14 : a0 = 7
                · rw [if_pos c14] at H
                  have c14b0 : (a0 == 7) = true := beq_iff_eq.mpr c14
                  have c14b1 : (a0 != 7) = false := bne_eq_false_iff_eq.mpr c14
                  clear c14
                  obtain ⟨ji15, hji15⟩ : ∃ j_ : Int, (Int.tmod a2 64) = j_ := ⟨_, rfl⟩
                  replace H : (if 0 ≤ (ji15) then (some (shr .u64 a1 (ji15))) else (none)) = some r := by first | (rw [hji15] at H; exact H) | (simp only [hji15] at H ⊢; exact H)
                  by_cases c16 : 0 ≤ (ji15)
                  · rw [if_pos c16] at H
                    have c16b0 := eq_true c16
                    have c16b1 : decide (0 ≤ (ji15)) = true := decide_eq_true c16
                    clear c16
                    obtain ⟨ji17, hji17⟩ : ∃ j_ : Int, (shr .u64 a1 (ji15)) = j_ := ⟨_, rfl⟩
                    replace H : (some ji17) = some r := by first | (rw [hji17] at H; exact H) | (simp only [hji17] at H ⊢; exact H)
                    have hji17_ : (a1 / 2 ^ min (ji15).toNat 64) = ji17 := hji17
                    have hji17z : (ji15) ≤ 64 → (a1 / 2 ^ (ji15).toNat) = ji17 := shr_small hji17
                    obtain rfl := Option.some.inj H
                    go_enter Try.func25, Try.ntmps25
                    go_wp2
                    go_ret
                    exact ⟨by first | rfl | (simp; done) | (simp only [← hji15, ← hji17] <;> (first | rfl | simp)) | (simp [*]; done), by repeat (first | exact Drawn0.refl _ | apply Drawn0.step)⟩
                  · rw [if_neg c16] at H
                    exact absurd H (by simp)
                · rw [if_neg c14] at H
                  have c14b0 : (a0 == 7) = false := beq_eq_false_iff_ne.mpr c14
                  have c14b1 : (a0 != 7) = true := bne_iff_ne.mpr c14
                  by_cases c18 : a0 = 8
                  · rw [if_pos c18] at H
                    have c18b0 : (a0 == 8) = true := beq_iff_eq.mpr c18
                    have c18b1 : (a0 != 8) = false := bne_eq_false_iff_eq.mpr c18
                    clear c18
                    replace H := Option.bind_eq_some_iff.mp H
                    obtain ⟨t208, A190, H⟩ := H
                    replace H : (some t208) = some r := H
                    have A19 := Aside0.mk A190
                    clear A190
                    obtain rfl := Option.some.inj H
                    go_enter Try.func25, Try.ntmps25
                    go_wp2_with (first | ((with_reducible refine gate_callee (f := 27) rfl ?_); refine goesL_ (some 55) rfl rfl Try.func27 (by kernel_rfl) rfl #[.bool (a1 == a2)] rfl (by (try simp only [List.map_toArray, List.map_cons, List.map_nil]); first | done | rfl | (simp only [List.length_drop, List.length_take]; rfl)) ?_; (with_reducible refine (word_truth.calls (a1 == a2) t208 _ A19.out).mono ?_); rintro e w' ⟨rfl, ⟨nd, rfl⟩⟩; refine ⟨_, rfl, ?_⟩))
                    go_ret
                    exact ⟨by first | rfl | (simp; done) | (simp [*]; done), by repeat (first | exact Drawn0.refl _ | apply Drawn0.step)⟩
                  · rw [if_neg c18] at H
                    have c18b0 : (a0 == 8) = false := beq_eq_false_iff_ne.mpr c18
                    have c18b1 : (a0 != 8) = true := bne_iff_ne.mpr c18
                    by_cases c20 : a0 = 9
                    · rw [if_pos c20] at H
                      have c20b0 : (a0 == 9) = true := beq_iff_eq.mpr c20
                      have c20b1 : (a0 != 9) = false := bne_eq_false_iff_eq.mpr c20
                      clear c20
                      replace H := Option.bind_eq_some_iff.mp H
                      obtain ⟨t209, A210, H⟩ := H
                      replace H : (some t209) = some r := H
                      have A21 := Aside0.mk A210
                      clear A210
                      obtain rfl := Option.some.inj H
                      go_enter Try.func25, Try.ntmps25
                      go_wp2_with (first | ((with_reducible refine gate_callee (f := 27) rfl ?_); refine goesL_ (some 61) rfl rfl Try.func27 (by kernel_rfl) rfl #[.bool (decide (a1 < a2))] rfl (by (try simp only [List.map_toArray, List.map_cons, List.map_nil]); first | done | rfl | (simp only [List.length_drop, List.length_take]; rfl)) ?_; (with_reducible refine (word_truth.calls (decide (a1 < a2)) t209 _ A21.out).mono ?_); rintro e w' ⟨rfl, ⟨nd, rfl⟩⟩; refine ⟨_, rfl, ?_⟩))
                      go_ret
                      exact ⟨by first | rfl | (simp; done) | (simp [*]; done), by repeat (first | exact Drawn0.refl _ | apply Drawn0.step)⟩
                    · rw [if_neg c20] at H
                      have c20b0 : (a0 == 9) = false := beq_eq_false_iff_ne.mpr c20
                      have c20b1 : (a0 != 9) = true := bne_iff_ne.mpr c20
                      obtain rfl := Option.some.inj H
                      go_enter Try.func25, Try.ntmps25
                      go_wp2
                      go_ret
                      exact ⟨by first | rfl | (simp; done) | (simp [*]; done), by repeat (first | exact Drawn0.refl _ | apply Drawn0.step)⟩

end Go.Proofs.Ytpibifgllbfgmaa.PDeadOf
