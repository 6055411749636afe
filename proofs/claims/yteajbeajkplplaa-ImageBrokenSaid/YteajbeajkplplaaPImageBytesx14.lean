/-
For ImageBytes: what the Go functions that it reaches compute, as plain Lean functions, and the walks that show it; conditions as each theorem states them. (Written by a program of this session on the kit's print.)
-/
-- PRINTED by print.py (a twelfth state) out of the translation. Not trusted: Lean checks it.
import Derived.Test.YteajbeajkplplaaPImageBytesx0
import Derived.Test.YteajbeajkplplaaPImageBytesx5
import Derived.Test.YteajbeajkplplaaPImageBytesx13
namespace Go.Proofs.Yteajbeajkplplaa.PImageBytes
open Go.RowKit Go.Proofs.YteajbeajkplplaaW.PrintWords Go.Proofs.YteajbeajkplplaaW.PrintLast Go.Proofs.YteajbeajkplplaaW.PrintMore
attribute [local go_sem] max2_int min2_int max_two min_two max_three min_three max_four min_four   -- for this text's walks alone
set_option linter.unusedVariables false
set_option linter.unusedSimpArgs false

/-! ### encode_Decode: function 34 -/
def encode_Decode.l0 : Nat → List Int → Int → Int → Int → Int → Int → Int → Int → Int → Int → Int → Option (Int × Int × Int × Int × Int × Int × Int × Int × Bool)
 | 0, _, _, _, _, _, _, _, _, _, _, _ => none
 | k + 1, x47, x48, x49, x352000, x352001, x352002, x352003, x352004, x352005, x352006, x352007 => if x49 < x48 then (if 0 ≤ x49 then (if x49 < (x47.length : Int) then (encode_Decode.l0 k x47 x48 (wrap64 (x49 + 1)) x352000 x352001 x352002 x352003 x352004 x352005 (Go.bits .or .u64 (IntKind.u64.wrap (x352006 * 256)) (IntKind.u64.wrap (rd x47 x49))) x352007) else (none)) else (none)) else ((encode_May.f k x352000 x352001 x352002 x352003 x352004 x352005 x352006 x352007).bind fun t354 => (if t354 = true then (some (x352000, x352001, x352002, x352003, x352004, x352005, x352006, x352007, true)) else (some (0, 0, 0, 0, 0, 0, 0, 0, false))))
def encode_Decode.f (k : Nat) (l0 : List Int) : Option (Int × Int × Int × Int × Int × Int × Int × Int × Bool) := if (l0.length : Int) = 16 then (if 0 < (l0.length : Int) then (if 1 < (l0.length : Int) then (if 2 < (l0.length : Int) then ((encode_back.f (rd l0 2)).bind fun t342 => (if 3 < (l0.length : Int) then ((encode_back.f (rd l0 3)).bind fun t344 => (if 4 < (l0.length : Int) then ((encode_back.f (rd l0 4)).bind fun t346 => (if 5 < (l0.length : Int) then ((encode_back.f (rd l0 5)).bind fun t348 => (if 6 < (l0.length : Int) then (if 7 < (l0.length : Int) then (if 8 ≤ (l0.length : Int) then (encode_Decode.l0 k (l0.drop 8) ((l0.drop 8).length : Int) 0 (wrap64 (rd l0 0)) (wrap64 (rd l0 1)) t342 t344 t346 t348 0 (Go.bits .or .i64 (wrap64 ((wrap64 (rd l0 6)) * 256)) (wrap64 (rd l0 7)))) else (none)) else (none)) else (none))) else (none))) else (none))) else (none))) else (none)) else (none)) else (none)) else (some (0, 0, 0, 0, 0, 0, 0, 0, false))
theorem encode_Decode.mono_l : ∀ k, (∀ y0 y1 y2 y3 y4 y5 y6 y7 y8 y9 y10, LeO (encode_Decode.l0 k y0 y1 y2 y3 y4 y5 y6 y7 y8 y9 y10) (encode_Decode.l0 (k + 1) y0 y1 y2 y3 y4 y5 y6 y7 y8 y9 y10))
 | 0 => fun _ _ _ _ _ _ _ _ _ _ _ r h => by simp [encode_Decode.l0] at h
 | k + 1 => by
  have ih0 := encode_Decode.mono_l k
  ·
   intro y0 y1 y2 y3 y4 y5 y6 y7 y8 y9 y10
   unfold encode_Decode.l0
   repeat' first
   | (with_reducible exact ih0 _ _ _ _ _ _ _ _ _ _ _)
   | (with_reducible exact encode_May.mono _ _ _ _ _ _ _ _ _)
   | (with_reducible exact LeO.refl _)
   | (with_reducible exact LeO.none _)
   | (with_reducible refine LeO.ite ?_ ?_)
   | (with_reducible refine LeO.bind ?_ (fun _ => ?_))
   | exact ih0 _ _ _ _ _ _ _ _ _ _ _
   | exact encode_May.mono _ _ _ _ _ _ _ _ _
   | exact LeO.none _
   | refine LeO.ite ?_ ?_
   | refine LeO.bind ?_ (fun _ => ?_)
theorem encode_Decode.mono : ∀ a0 k, LeO (encode_Decode.f k a0) (encode_Decode.f (k + 1) a0) := by
 intro a0 k
 have ih0 := encode_Decode.mono_l k
 unfold encode_Decode.f
 repeat' first
   | (with_reducible exact ih0 _ _ _ _ _ _ _ _ _ _ _)
   | (with_reducible exact encode_May.mono _ _ _ _ _ _ _ _ _)
   | (with_reducible exact LeO.refl _)
   | (with_reducible exact LeO.none _)
   | (with_reducible refine LeO.ite ?_ ?_)
   | (with_reducible refine LeO.bind ?_ (fun _ => ?_))
   | exact ih0 _ _ _ _ _ _ _ _ _ _ _
   | exact encode_May.mono _ _ _ _ _ _ _ _ _
   | exact LeO.none _
   | refine LeO.ite ?_ ?_
   | refine LeO.bind ?_ (fun _ => ?_)
def encode_Decode.T3 : Bool × List (List Nat × List Nat) := (true, [([], []), ([0], [0]), ([1], [1]), ([2], [2]), ([], []), ([4], [4]), ([5], [5]), ([6], [6]), ([], []), ([8], [8]), ([9], [9]), ([10], [10]), ([], []), ([12], [12]), ([13], [13]), ([14, 11], [14]), ([], []), ([16], [16]), ([17], [17]), ([18, 15], [18]), ([], []), ([20], [20]), ([21], [21]), ([22, 19], [22]), ([], []), ([24], [24]), ([25], [25]), ([26], [26]), ([27], [27]), ([], []), ([29], [29]), ([30], [30]), ([31], [31]), ([28, 32], [28, 32]), ([3, 7, 11, 15, 19, 23, 33], [3, 7, 11, 15, 19, 23, 33]), ([], []), ([35, 34, 23, 0, 1, 2, 3, 4, 5, 6, 7, 8, 9, 10, 11, 12, 13, 14, 15, 16, 17, 18, 19, 20, 21, 22, 23, 24, 25, 26, 27, 28, 29, 30, 31, 32, 33, 34, 35], [34, 35])])
def encode_Decode.B3 : List Nat := [0, 1, 3, 7, 0, 16, 48, 112, 0, 256, 768, 1792, 0, 4096, 12288, 32512, 0, 65536, 196608, 524032, 0, 1048576, 3145728, 8388352, 0, 16777216, 50331648, 117440512, 251658240, 0, 536870912, 1610612736, 3758096384, 8573157376, 17179869183, 0, 68719476735]
theorem encode_Decode.tab3 : rtab .any (opsOf Try.f34 3) = encode_Decode.T3 := by kernel_rfl
theorem encode_Decode.bits3 : waitsOk encode_Decode.T3.2 encode_Decode.B3 = true := by kernel_rfl
set_option maxHeartbeats 8000000 in
set_option maxRecDepth 100000 in
theorem encode_Decode.calls (k : Nat) (A0 : Option Addr) (c0 : Nat) (l0 : List Int) (r1 : Int) (r2 : Int) (r3 : Int) (r4 : Int) (r5 : Int) (r6 : Int) (r7 : Int) (r8 : Int) (r9 : Bool) (w : World) (hr0 : Kd.C (Kd.int .u8) w A0 l0.length l0) (hc0 : l0.length ≤ c0) (h : encode_Decode.f k l0 = some (r1, r2, r3, r4, r5, r6, r7, r8, r9)) :
  Calls Try.prog 34 #[.slice A0 l0.length c0] w fun e w' => e = .returned (.tuple #[.agg #[.int .i64 r1, .int .i64 r2, .int .i64 r3, .int .i64 r4, .int .i64 r5, .int .i64 r6, .int .u64 r7, .int .i64 r8], .bool r9]) ∧ Below w.heap.size w w' := by
 have hu46 := Try.underlying46
 have HR0 := Aside0.mk hr0
 have HC0 := Aside0.mk hc0
 clear hr0 hc0
 have HB := Aside0.mk (Below.refl w.heap.size w)
 have H : (if (l0.length : Int) = 16 then (if 0 < (l0.length : Int) then (if 1 < (l0.length : Int) then (if 2 < (l0.length : Int) then ((encode_back.f (rd l0 2)).bind fun t342 => (if 3 < (l0.length : Int) then ((encode_back.f (rd l0 3)).bind fun t344 => (if 4 < (l0.length : Int) then ((encode_back.f (rd l0 4)).bind fun t346 => (if 5 < (l0.length : Int) then ((encode_back.f (rd l0 5)).bind fun t348 => (if 6 < (l0.length : Int) then (if 7 < (l0.length : Int) then (if 8 ≤ (l0.length : Int) then (encode_Decode.l0 k (l0.drop 8) ((l0.drop 8).length : Int) 0 (wrap64 (rd l0 0)) (wrap64 (rd l0 1)) t342 t344 t346 t348 0 (Go.bits .or .i64 (wrap64 ((wrap64 (rd l0 6)) * 256)) (wrap64 (rd l0 7)))) else (none)) else (none)) else (none))) else (none))) else (none))) else (none))) else (none)) else (none)) else (none)) else (some (0, 0, 0, 0, 0, 0, 0, 0, false))) = some (r1, r2, r3, r4, r5, r6, r7, r8, r9) := h
 clear h
 by_cases c2 : (l0.length : Int) = 16
 ·
  rw [if_pos c2] at H
  have c2b0 : ((l0.length : Int) == 16) = true := beq_iff_eq.mpr c2
  have c2b1 : ((l0.length : Int) != 16) = false := bne_eq_false_iff_eq.mpr c2
  clear c2
  by_cases c3 : 0 < (l0.length : Int)
  ·
   rw [if_pos c3] at H
   have c3b0 : decide (0 < (l0.length : Int)) = true := decide_eq_true c3
   have c3b1 : decide (0 < l0.length) = true := decide_eq_true (by omega)
   clear c3
   by_cases c4 : 1 < (l0.length : Int)
   ·
    rw [if_pos c4] at H
    have c4b0 : decide (1 < (l0.length : Int)) = true := decide_eq_true c4
    have c4b1 : decide (1 < l0.length) = true := decide_eq_true (by omega)
    clear c4
    by_cases c5 : 2 < (l0.length : Int)
    ·
     rw [if_pos c5] at H
     have c5b0 : decide (2 < (l0.length : Int)) = true := decide_eq_true c5
     have c5b1 : decide (2 < l0.length) = true := decide_eq_true (by omega)
     clear c5
     replace H := Option.bind_eq_some_iff.mp H
     obtain ⟨t342, A60, H⟩ := H
     replace H : (if 3 < (l0.length : Int) then ((encode_back.f (rd l0 3)).bind fun t344 => (if 4 < (l0.length : Int) then ((encode_back.f (rd l0 4)).bind fun t346 => (if 5 < (l0.length : Int) then ((encode_back.f (rd l0 5)).bind fun t348 => (if 6 < (l0.length : Int) then (if 7 < (l0.length : Int) then (if 8 ≤ (l0.length : Int) then (encode_Decode.l0 k (l0.drop 8) ((l0.drop 8).length : Int) 0 (wrap64 (rd l0 0)) (wrap64 (rd l0 1)) t342 t344 t346 t348 0 (Go.bits .or .i64 (wrap64 ((wrap64 (rd l0 6)) * 256)) (wrap64 (rd l0 7)))) else (none)) else (none)) else (none))) else (none))) else (none))) else (none)) = some (r1, r2, r3, r4, r5, r6, r7, r8, r9) := H
     have A6 := Aside0.mk A60
     clear A60
     by_cases c7 : 3 < (l0.length : Int)
     ·
      rw [if_pos c7] at H
      have c7b0 : decide (3 < (l0.length : Int)) = true := decide_eq_true c7
      have c7b1 : decide (3 < l0.length) = true := decide_eq_true (by omega)
      clear c7
      replace H := Option.bind_eq_some_iff.mp H
      obtain ⟨t344, A80, H⟩ := H
      replace H : (if 4 < (l0.length : Int) then ((encode_back.f (rd l0 4)).bind fun t346 => (if 5 < (l0.length : Int) then ((encode_back.f (rd l0 5)).bind fun t348 => (if 6 < (l0.length : Int) then (if 7 < (l0.length : Int) then (if 8 ≤ (l0.length : Int) then (encode_Decode.l0 k (l0.drop 8) ((l0.drop 8).length : Int) 0 (wrap64 (rd l0 0)) (wrap64 (rd l0 1)) t342 t344 t346 t348 0 (Go.bits .or .i64 (wrap64 ((wrap64 (rd l0 6)) * 256)) (wrap64 (rd l0 7)))) else (none)) else (none)) else (none))) else (none))) else (none)) = some (r1, r2, r3, r4, r5, r6, r7, r8, r9) := H
      have A8 := Aside0.mk A80
      clear A80
      by_cases c9 : 4 < (l0.length : Int)
      ·
       rw [if_pos c9] at H
       have c9b0 : decide (4 < (l0.length : Int)) = true := decide_eq_true c9
       have c9b1 : decide (4 < l0.length) = true := decide_eq_true (by omega)
       clear c9
       replace H := Option.bind_eq_some_iff.mp H
       obtain ⟨t346, A100, H⟩ := H
       replace H : (if 5 < (l0.length : Int) then ((encode_back.f (rd l0 5)).bind fun t348 => (if 6 < (l0.length : Int) then (if 7 < (l0.length : Int) then (if 8 ≤ (l0.length : Int) then (encode_Decode.l0 k (l0.drop 8) ((l0.drop 8).length : Int) 0 (wrap64 (rd l0 0)) (wrap64 (rd l0 1)) t342 t344 t346 t348 0 (Go.bits .or .i64 (wrap64 ((wrap64 (rd l0 6)) * 256)) (wrap64 (rd l0 7)))) else (none)) else (none)) else (none))) else (none)) = some (r1, r2, r3, r4, r5, r6, r7, r8, r9) := H
       have A10 := Aside0.mk A100
       clear A100
       by_cases c11 : 5 < (l0.length : Int)
       ·
        rw [if_pos c11] at H
        have c11b0 : decide (5 < (l0.length : Int)) = true := decide_eq_true c11
        have c11b1 : decide (5 < l0.length) = true := decide_eq_true (by omega)
        clear c11
        replace H := Option.bind_eq_some_iff.mp H
        obtain ⟨t348, A120, H⟩ := H
        replace H : (if 6 < (l0.length : Int) then (if 7 < (l0.length : Int) then (if 8 ≤ (l0.length : Int) then (encode_Decode.l0 k (l0.drop 8) ((l0.drop 8).length : Int) 0 (wrap64 (rd l0 0)) (wrap64 (rd l0 1)) t342 t344 t346 t348 0 (Go.bits .or .i64 (wrap64 ((wrap64 (rd l0 6)) * 256)) (wrap64 (rd l0 7)))) else (none)) else (none)) else (none)) = some (r1, r2, r3, r4, r5, r6, r7, r8, r9) := H
        have A12 := Aside0.mk A120
        clear A120
        by_cases c13 : 6 < (l0.length : Int)
        ·
         rw [if_pos c13] at H
         have c13b0 : decide (6 < (l0.length : Int)) = true := decide_eq_true c13
         have c13b1 : decide (6 < l0.length) = true := decide_eq_true (by omega)
         clear c13
         by_cases c14 : 7 < (l0.length : Int)
         ·
          rw [if_pos c14] at H
          have c14b0 : decide (7 < (l0.length : Int)) = true := decide_eq_true c14
          have c14b1 : decide (7 < l0.length) = true := decide_eq_true (by omega)
          clear c14
          by_cases c15 : 8 ≤ (l0.length : Int)
          ·
           rw [if_pos c15] at H
           have c15b0 := eq_true c15
           have c15b1 : decide (8 ≤ (l0.length : Int)) = true := decide_eq_true c15
           clear c15
           have H' := Aside0.mk H
           clear H
           go_enter Try.func34, Try.ntmps34
           try go_wp2_with (first | ((with_reducible refine gate_dst (N := 2) rfl ?_); refine box_event ?hg (N := 2) ?hd (cs := #[.int .i64 0, .int .i64 0, .int .i64 0, .int .i64 0, .int .i64 0, .int .i64 0, .int .u64 0, .int .i64 0]) (t := 46) ?hr ?_; (case hd => rfl); (case hg => rfl); (case hr => first | (go_simp; done) | (go_simp; rfl)); intro gb338 hg w16 hbox hb; have n0_ := Aside0.mk (below_step (by repeat (first | (with_reducible first | exact HB.out | apply below_alloc | apply pw_below_drewN | apply below_drew1) | exact HB.out)) hb); have n1_ := Aside0.mk (hbox); have n2_ := Aside0.mk ((by rw [hg]; exact (below_size (by repeat (first | (with_reducible first | exact HB.out | apply below_alloc | apply pw_below_drewN | apply below_drew1) | exact HB.out))) : w.heap.size ≤ gb338)); have n3_ := Aside0.mk ((by rw [hg]; exact (below_size (by repeat (first | (with_reducible first | exact HB.out | apply below_alloc | apply pw_below_drewN | apply below_drew1) | exact HB.out))) : w.heap.size ≤ gb338)); clear HB; have HB := n0_; have BK338 := n1_; have GW338 := n2_; have GE338 := n3_; clear n0_ n1_ n2_ n3_; clear hb hbox hg))
           have n0_ := Aside0.mk (blk_drew BK338.out)
           have n1_ := Aside0.mk (below_drew1 HB.out)
           clear BK338
           clear HB
           have BK338 := n0_
           have HB := n1_
           clear n0_ n1_
           have p339 : 0 ≤ (0 : Int) := (by omega)
           have q339 : 0 < (l0.length : Int) := of_decide_eq_true (by first | (with_reducible assumption) | assumption)
           obtain ⟨ad339, e339, hx339_0⟩ := Kd.at_int HR0.out 0 p339 q339
           have hw339_0 := hx339_0
           (try rw [show ((0 : Int)).toNat = 0 from rfl] at hw339_0)
           (try rw [show 0 * 1 = 0 from rfl] at hw339_0)
           (try rw [Addr.add_zero'] at hw339_0)
           cases e339
           have qi339 : (0 < l0.length) = True := eq_true (by omega)
           (try rw [show ((0 : Int)).toNat = 0 from rfl] at hx339_0)
           (try rw [Addr.add_zero'] at hx339_0)
           replace hx339_0 := (HB.out.cell (World.block_lt_of_cell? w _ hx339_0)).trans hx339_0
           replace p339 := eq_true p339
           replace q339 := eq_true q339
           have p340 : 0 ≤ (1 : Int) := (by omega)
           have q340 : 1 < (l0.length : Int) := of_decide_eq_true (by first | (with_reducible assumption) | assumption)
           obtain ⟨ad340, e340, hx340_0⟩ := Kd.at_int HR0.out 1 p340 q340
           have hw340_0 := hx340_0
           (try rw [show ((1 : Int)).toNat = 1 from rfl] at hw340_0)
           (try rw [show 1 * 1 = 1 from rfl] at hw340_0)
           (try simp only [Nat.reduceMul, Nat.reduceEqDiff, Go.Addr.add, ↓reduceIte] at hw340_0)
           obtain rfl : ad339 = ad340 := (by injection e340)
           (try simp only [show (1 : Int).toNat = 1 from rfl, Nat.reduceMul, Nat.reduceEqDiff, Go.Addr.add, ↓reduceIte] at hx340_0)
           have qi340 : (1 < l0.length) = True := eq_true (by omega)
           (try rw [show ((1 : Int)).toNat = 1 from rfl] at hx340_0)
           replace hx340_0 := (HB.out.cell (World.block_lt_of_cell? w _ hx340_0)).trans hx340_0
           replace p340 := eq_true p340
           replace q340 := eq_true q340
           have p341 : 0 ≤ (2 : Int) := (by omega)
           have q341 : 2 < (l0.length : Int) := of_decide_eq_true (by first | (with_reducible assumption) | assumption)
           obtain ⟨ad341, e341, hx341_0⟩ := Kd.at_int HR0.out 2 p341 q341
           have hw341_0 := hx341_0
           (try rw [show ((2 : Int)).toNat = 2 from rfl] at hw341_0)
           (try rw [show 2 * 1 = 2 from rfl] at hw341_0)
           (try simp only [Nat.reduceMul, Nat.reduceEqDiff, Go.Addr.add, ↓reduceIte] at hw341_0)
           obtain rfl : ad339 = ad341 := (by injection e341)
           (try simp only [show (2 : Int).toNat = 2 from rfl, Nat.reduceMul, Nat.reduceEqDiff, Go.Addr.add, ↓reduceIte] at hx341_0)
           have qi341 : (2 < l0.length) = True := eq_true (by omega)
           (try rw [show ((2 : Int)).toNat = 2 from rfl] at hx341_0)
           replace hx341_0 := (HB.out.cell (World.block_lt_of_cell? w _ hx341_0)).trans hx341_0
           replace p341 := eq_true p341
           replace q341 := eq_true q341
           have p343 : 0 ≤ (3 : Int) := (by omega)
           have q343 : 3 < (l0.length : Int) := of_decide_eq_true (by first | (with_reducible assumption) | assumption)
           obtain ⟨ad343, e343, hx343_0⟩ := Kd.at_int HR0.out 3 p343 q343
           have hw343_0 := hx343_0
           (try rw [show ((3 : Int)).toNat = 3 from rfl] at hw343_0)
           (try rw [show 3 * 1 = 3 from rfl] at hw343_0)
           (try simp only [Nat.reduceMul, Nat.reduceEqDiff, Go.Addr.add, ↓reduceIte] at hw343_0)
           obtain rfl : ad339 = ad343 := (by injection e343)
           (try simp only [show (3 : Int).toNat = 3 from rfl, Nat.reduceMul, Nat.reduceEqDiff, Go.Addr.add, ↓reduceIte] at hx343_0)
           have qi343 : (3 < l0.length) = True := eq_true (by omega)
           (try rw [show ((3 : Int)).toNat = 3 from rfl] at hx343_0)
           replace hx343_0 := (HB.out.cell (World.block_lt_of_cell? w _ hx343_0)).trans hx343_0
           replace p343 := eq_true p343
           replace q343 := eq_true q343
           have p345 : 0 ≤ (4 : Int) := (by omega)
           have q345 : 4 < (l0.length : Int) := of_decide_eq_true (by first | (with_reducible assumption) | assumption)
           obtain ⟨ad345, e345, hx345_0⟩ := Kd.at_int HR0.out 4 p345 q345
           have hw345_0 := hx345_0
           (try rw [show ((4 : Int)).toNat = 4 from rfl] at hw345_0)
           (try rw [show 4 * 1 = 4 from rfl] at hw345_0)
           (try simp only [Nat.reduceMul, Nat.reduceEqDiff, Go.Addr.add, ↓reduceIte] at hw345_0)
           obtain rfl : ad339 = ad345 := (by injection e345)
           (try simp only [show (4 : Int).toNat = 4 from rfl, Nat.reduceMul, Nat.reduceEqDiff, Go.Addr.add, ↓reduceIte] at hx345_0)
           have qi345 : (4 < l0.length) = True := eq_true (by omega)
           (try rw [show ((4 : Int)).toNat = 4 from rfl] at hx345_0)
           replace hx345_0 := (HB.out.cell (World.block_lt_of_cell? w _ hx345_0)).trans hx345_0
           replace p345 := eq_true p345
           replace q345 := eq_true q345
           have p347 : 0 ≤ (5 : Int) := (by omega)
           have q347 : 5 < (l0.length : Int) := of_decide_eq_true (by first | (with_reducible assumption) | assumption)
           obtain ⟨ad347, e347, hx347_0⟩ := Kd.at_int HR0.out 5 p347 q347
           have hw347_0 := hx347_0
           (try rw [show ((5 : Int)).toNat = 5 from rfl] at hw347_0)
           (try rw [show 5 * 1 = 5 from rfl] at hw347_0)
           (try simp only [Nat.reduceMul, Nat.reduceEqDiff, Go.Addr.add, ↓reduceIte] at hw347_0)
           obtain rfl : ad339 = ad347 := (by injection e347)
           (try simp only [show (5 : Int).toNat = 5 from rfl, Nat.reduceMul, Nat.reduceEqDiff, Go.Addr.add, ↓reduceIte] at hx347_0)
           have qi347 : (5 < l0.length) = True := eq_true (by omega)
           (try rw [show ((5 : Int)).toNat = 5 from rfl] at hx347_0)
           replace hx347_0 := (HB.out.cell (World.block_lt_of_cell? w _ hx347_0)).trans hx347_0
           replace p347 := eq_true p347
           replace q347 := eq_true q347
           have p349 : 0 ≤ (6 : Int) := (by omega)
           have q349 : 6 < (l0.length : Int) := of_decide_eq_true (by first | (with_reducible assumption) | assumption)
           obtain ⟨ad349, e349, hx349_0⟩ := Kd.at_int HR0.out 6 p349 q349
           have hw349_0 := hx349_0
           (try rw [show ((6 : Int)).toNat = 6 from rfl] at hw349_0)
           (try rw [show 6 * 1 = 6 from rfl] at hw349_0)
           (try simp only [Nat.reduceMul, Nat.reduceEqDiff, Go.Addr.add, ↓reduceIte] at hw349_0)
           obtain rfl : ad339 = ad349 := (by injection e349)
           (try simp only [show (6 : Int).toNat = 6 from rfl, Nat.reduceMul, Nat.reduceEqDiff, Go.Addr.add, ↓reduceIte] at hx349_0)
           have qi349 : (6 < l0.length) = True := eq_true (by omega)
           (try rw [show ((6 : Int)).toNat = 6 from rfl] at hx349_0)
           replace hx349_0 := (HB.out.cell (World.block_lt_of_cell? w _ hx349_0)).trans hx349_0
           replace p349 := eq_true p349
           replace q349 := eq_true q349
           have p350 : 0 ≤ (7 : Int) := (by omega)
           have q350 : 7 < (l0.length : Int) := of_decide_eq_true (by first | (with_reducible assumption) | assumption)
           obtain ⟨ad350, e350, hx350_0⟩ := Kd.at_int HR0.out 7 p350 q350
           have hw350_0 := hx350_0
           (try rw [show ((7 : Int)).toNat = 7 from rfl] at hw350_0)
           (try rw [show 7 * 1 = 7 from rfl] at hw350_0)
           (try simp only [Nat.reduceMul, Nat.reduceEqDiff, Go.Addr.add, ↓reduceIte] at hw350_0)
           obtain rfl : ad339 = ad350 := (by injection e350)
           (try simp only [show (7 : Int).toNat = 7 from rfl, Nat.reduceMul, Nat.reduceEqDiff, Go.Addr.add, ↓reduceIte] at hx350_0)
           have qi350 : (7 < l0.length) = True := eq_true (by omega)
           (try rw [show ((7 : Int)).toNat = 7 from rfl] at hx350_0)
           replace hx350_0 := (HB.out.cell (World.block_lt_of_cell? w _ hx350_0)).trans hx350_0
           replace p350 := eq_true p350
           replace q350 := eq_true q350
           refine start_ (n := 37) (S := fun w' => w'.cell? ad339 = some (.int .u8 (rd l0 0)) ∧ w'.cell? ⟨ad339.block, ad339.off + 1, none⟩ = some (.int .u8 (rd l0 1)) ∧ w'.cell? ⟨ad339.block, ad339.off + 2, none⟩ = some (.int .u8 (rd l0 2)) ∧ w'.cell? ⟨ad339.block, ad339.off + 3, none⟩ = some (.int .u8 (rd l0 3)) ∧ w'.cell? ⟨ad339.block, ad339.off + 4, none⟩ = some (.int .u8 (rd l0 4)) ∧ w'.cell? ⟨ad339.block, ad339.off + 5, none⟩ = some (.int .u8 (rd l0 5)) ∧ w'.cell? ⟨ad339.block, ad339.off + 6, none⟩ = some (.int .u8 (rd l0 6)) ∧ w'.cell? ⟨ad339.block, ad339.off + 7, none⟩ = some (.int .u8 (rd l0 7))) (ds := []) #[false, false, false, false, false, false, false, false, false, false, false, false, false, false, false, false, false, false, false, false, false, false, false, false, false, false, false, false, false, false, false, false, false, false, false, false, false] (by kernel_rfl) rfl rfl ⟨((HB.out.cell (World.block_lt_of_cell? w _ hw339_0)).trans hw339_0), ((HB.out.cell (World.block_lt_of_cell? w _ hw340_0)).trans hw340_0), ((HB.out.cell (World.block_lt_of_cell? w _ hw341_0)).trans hw341_0), ((HB.out.cell (World.block_lt_of_cell? w _ hw343_0)).trans hw343_0), ((HB.out.cell (World.block_lt_of_cell? w _ hw345_0)).trans hw345_0), ((HB.out.cell (World.block_lt_of_cell? w _ hw347_0)).trans hw347_0), ((HB.out.cell (World.block_lt_of_cell? w _ hw349_0)).trans hw349_0), ((HB.out.cell (World.block_lt_of_cell? w _ hw350_0)).trans hw350_0)⟩ (fun hHeld => ?_); refine with_tabW encode_Decode.tab3 encode_Decode.bits3 (fun HT_ HW_ => ?_)
           generalize w16.drew = w17 at BK338 HB hx339_0 hx340_0 hx341_0 hx343_0 hx345_0 hx347_0 hx349_0 hx350_0 hHeld ⊢
           refine pure_ (i := 0) (N := some 11) (v := ?_) (a' := ?_) #[true, false, false, false, false, false, false, false, false, false, false, false, false, false, false, false, false, false, false, false, false, false, false, false, false, false, false, false, false, false, false, false, false, false, false, false, false] rfl rfl (any_of HT_.out (by kernel_rfl)) (fun _ _ _ h => h) (Or.inl ⟨by rfl, ?_⟩) ?_ ?_
           rotate_left
           ·
            intro w'
            go_simp
            with_reducible rfl
           rotate_left
           ·
            simp only [Act.put, List.setIfInBounds_toArray, List.set_cons_zero, List.set_cons_succ, i64_w, i32_w]
            rfl
           refine pure_ (i := 1) (N := some 12) (v := ?_) (a' := ?_) #[true, true, false, false, false, false, false, false, false, false, false, false, false, false, false, false, false, false, false, false, false, false, false, false, false, false, false, false, false, false, false, false, false, false, false, false, false] rfl rfl (any_of HT_.out (by kernel_rfl)) (fun _ _ _ h => h) (Or.inl ⟨by rfl, ?_⟩) ?_ ?_
           rotate_left
           ·
            intro w'
            go_simp
            with_reducible rfl
           rotate_left
           ·
            simp only [Act.put, List.setIfInBounds_toArray, List.set_cons_zero, List.set_cons_succ, i64_w, i32_w]
            rfl
           refine pure_ (i := 4) (N := some 15) (v := ?_) (a' := ?_) #[true, true, false, false, true, false, false, false, false, false, false, false, false, false, false, false, false, false, false, false, false, false, false, false, false, false, false, false, false, false, false, false, false, false, false, false, false] rfl rfl (any_of HT_.out (by kernel_rfl)) (fun _ _ _ h => h) (Or.inl ⟨by rfl, ?_⟩) ?_ ?_
           rotate_left
           ·
            intro w'
            go_simp
            with_reducible rfl
           rotate_left
           ·
            simp only [Act.put, List.setIfInBounds_toArray, List.set_cons_zero, List.set_cons_succ, i64_w, i32_w]
            rfl
           refine pure_ (i := 5) (N := some 16) (v := ?_) (a' := ?_) #[true, true, false, false, true, true, false, false, false, false, false, false, false, false, false, false, false, false, false, false, false, false, false, false, false, false, false, false, false, false, false, false, false, false, false, false, false] rfl rfl (any_of HT_.out (by kernel_rfl)) (fun _ _ _ h => h) (Or.inl ⟨by rfl, ?_⟩) ?_ ?_
           rotate_left
           ·
            intro w'
            go_simp
            with_reducible rfl
           rotate_left
           ·
            simp only [Act.put, List.setIfInBounds_toArray, List.set_cons_zero, List.set_cons_succ, i64_w, i32_w]
            rfl
           refine pure_ (i := 8) (N := some 19) (v := ?_) (a' := ?_) #[true, true, false, false, true, true, false, false, true, false, false, false, false, false, false, false, false, false, false, false, false, false, false, false, false, false, false, false, false, false, false, false, false, false, false, false, false] rfl rfl (any_of HT_.out (by kernel_rfl)) (fun _ _ _ h => h) (Or.inl ⟨by rfl, ?_⟩) ?_ ?_
           rotate_left
           ·
            intro w'
            go_simp
            with_reducible rfl
           rotate_left
           ·
            simp only [Act.put, List.setIfInBounds_toArray, List.set_cons_zero, List.set_cons_succ, i64_w, i32_w]
            rfl
           refine pure_ (i := 9) (N := some 20) (v := ?_) (a' := ?_) #[true, true, false, false, true, true, false, false, true, true, false, false, false, false, false, false, false, false, false, false, false, false, false, false, false, false, false, false, false, false, false, false, false, false, false, false, false] rfl rfl (any_of HT_.out (by kernel_rfl)) (fun _ _ _ h => h) (Or.inl ⟨by rfl, ?_⟩) ?_ ?_
           rotate_left
           ·
            intro w'
            go_simp
            with_reducible rfl
           rotate_left
           ·
            simp only [Act.put, List.setIfInBounds_toArray, List.set_cons_zero, List.set_cons_succ, i64_w, i32_w]
            rfl
           refine pure_ (i := 12) (N := some 23) (v := ?_) (a' := ?_) #[true, true, false, false, true, true, false, false, true, true, false, false, true, false, false, false, false, false, false, false, false, false, false, false, false, false, false, false, false, false, false, false, false, false, false, false, false] rfl rfl (any_of HT_.out (by kernel_rfl)) (fun _ _ _ h => h) (Or.inl ⟨by rfl, ?_⟩) ?_ ?_
           rotate_left
           ·
            intro w'
            go_simp
            with_reducible rfl
           rotate_left
           ·
            simp only [Act.put, List.setIfInBounds_toArray, List.set_cons_zero, List.set_cons_succ, i64_w, i32_w]
            rfl
           refine pure_ (i := 13) (N := some 24) (v := ?_) (a' := ?_) #[true, true, false, false, true, true, false, false, true, true, false, false, true, true, false, false, false, false, false, false, false, false, false, false, false, false, false, false, false, false, false, false, false, false, false, false, false] rfl rfl (any_of HT_.out (by kernel_rfl)) (fun _ _ _ h => h) (Or.inl ⟨by rfl, ?_⟩) ?_ ?_
           rotate_left
           ·
            intro w'
            go_simp
            with_reducible rfl
           rotate_left
           ·
            simp only [Act.put, List.setIfInBounds_toArray, List.set_cons_zero, List.set_cons_succ, i64_w, i32_w]
            rfl
           refine pure_ (i := 16) (N := some 27) (v := ?_) (a' := ?_) #[true, true, false, false, true, true, false, false, true, true, false, false, true, true, false, false, true, false, false, false, false, false, false, false, false, false, false, false, false, false, false, false, false, false, false, false, false] rfl rfl (any_of HT_.out (by kernel_rfl)) (fun _ _ _ h => h) (Or.inl ⟨by rfl, ?_⟩) ?_ ?_
           rotate_left
           ·
            intro w'
            go_simp
            with_reducible rfl
           rotate_left
           ·
            simp only [Act.put, List.setIfInBounds_toArray, List.set_cons_zero, List.set_cons_succ, i64_w, i32_w]
            rfl
           refine pure_ (i := 17) (N := some 28) (v := ?_) (a' := ?_) #[true, true, false, false, true, true, false, false, true, true, false, false, true, true, false, false, true, true, false, false, false, false, false, false, false, false, false, false, false, false, false, false, false, false, false, false, false] rfl rfl (any_of HT_.out (by kernel_rfl)) (fun _ _ _ h => h) (Or.inl ⟨by rfl, ?_⟩) ?_ ?_
           rotate_left
           ·
            intro w'
            go_simp
            with_reducible rfl
           rotate_left
           ·
            simp only [Act.put, List.setIfInBounds_toArray, List.set_cons_zero, List.set_cons_succ, i64_w, i32_w]
            rfl
           refine pure_ (i := 20) (N := some 31) (v := ?_) (a' := ?_) #[true, true, false, false, true, true, false, false, true, true, false, false, true, true, false, false, true, true, false, false, true, false, false, false, false, false, false, false, false, false, false, false, false, false, false, false, false] rfl rfl (any_of HT_.out (by kernel_rfl)) (fun _ _ _ h => h) (Or.inl ⟨by rfl, ?_⟩) ?_ ?_
           rotate_left
           ·
            intro w'
            go_simp
            with_reducible rfl
           rotate_left
           ·
            simp only [Act.put, List.setIfInBounds_toArray, List.set_cons_zero, List.set_cons_succ, i64_w, i32_w]
            rfl
           refine pure_ (i := 21) (N := some 32) (v := ?_) (a' := ?_) #[true, true, false, false, true, true, false, false, true, true, false, false, true, true, false, false, true, true, false, false, true, true, false, false, false, false, false, false, false, false, false, false, false, false, false, false, false] rfl rfl (any_of HT_.out (by kernel_rfl)) (fun _ _ _ h => h) (Or.inl ⟨by rfl, ?_⟩) ?_ ?_
           rotate_left
           ·
            intro w'
            go_simp
            with_reducible rfl
           rotate_left
           ·
            simp only [Act.put, List.setIfInBounds_toArray, List.set_cons_zero, List.set_cons_succ, i64_w, i32_w]
            rfl
           refine pure_ (i := 24) (N := some 35) (v := ?_) (a' := ?_) #[true, true, false, false, true, true, false, false, true, true, false, false, true, true, false, false, true, true, false, false, true, true, false, false, true, false, false, false, false, false, false, false, false, false, false, false, false] rfl rfl (any_of HT_.out (by kernel_rfl)) (fun _ _ _ h => h) (Or.inl ⟨by rfl, ?_⟩) ?_ ?_
           rotate_left
           ·
            intro w'
            go_simp
            with_reducible rfl
           rotate_left
           ·
            simp only [Act.put, List.setIfInBounds_toArray, List.set_cons_zero, List.set_cons_succ, i64_w, i32_w]
            rfl
           refine pure_ (i := 25) (N := some 36) (v := ?_) (a' := ?_) #[true, true, false, false, true, true, false, false, true, true, false, false, true, true, false, false, true, true, false, false, true, true, false, false, true, true, false, false, false, false, false, false, false, false, false, false, false] rfl rfl (any_of HT_.out (by kernel_rfl)) (fun _ _ _ h => h) (Or.inl ⟨by rfl, ?_⟩) ?_ ?_
           rotate_left
           ·
            intro w'
            go_simp
            with_reducible rfl
           rotate_left
           ·
            simp only [Act.put, List.setIfInBounds_toArray, List.set_cons_zero, List.set_cons_succ, i64_w, i32_w]
            rfl
           refine pure_ (i := 29) (N := some 40) (v := ?_) (a' := ?_) #[true, true, false, false, true, true, false, false, true, true, false, false, true, true, false, false, true, true, false, false, true, true, false, false, true, true, false, false, false, true, false, false, false, false, false, false, false] rfl rfl (any_of HT_.out (by kernel_rfl)) (fun _ _ _ h => h) (Or.inl ⟨by rfl, ?_⟩) ?_ ?_
           rotate_left
           ·
            intro w'
            go_simp
            with_reducible rfl
           rotate_left
           ·
            simp only [Act.put, List.setIfInBounds_toArray, List.set_cons_zero, List.set_cons_succ, i64_w, i32_w]
            rfl
           refine pure_ (i := 30) (N := some 41) (v := ?_) (a' := ?_) #[true, true, false, false, true, true, false, false, true, true, false, false, true, true, false, false, true, true, false, false, true, true, false, false, true, true, false, false, false, true, true, false, false, false, false, false, false] rfl rfl (any_of HT_.out (by kernel_rfl)) (fun _ _ _ h => h) (Or.inl ⟨by rfl, ?_⟩) ?_ ?_
           rotate_left
           ·
            intro w'
            go_simp
            with_reducible rfl
           rotate_left
           ·
            simp only [Act.put, List.setIfInBounds_toArray, List.set_cons_zero, List.set_cons_succ, i64_w, i32_w]
            rfl
           refine take_ (i := 2) (N := some 13) (v := ?_) (a' := ?_) #[true, true, true, false, true, true, false, false, true, true, false, false, true, true, false, false, true, true, false, false, true, true, false, false, true, true, false, false, false, true, true, false, false, false, false, false, false] rfl rfl (take_ofW HT_.out HW_.out (by kernel_rfl)) (fun _ _ _ h => h) (Or.inl ⟨by rfl, ?_⟩) hHeld ?_ ?_
           rotate_left
           ·
            rintro w' ⟨s0, s1, s2, s3, s4, s5, s6, s7⟩
            go_simp
            with_reducible rfl
           rotate_left
           ·
            simp only [Act.put, List.setIfInBounds_toArray, List.set_cons_zero, List.set_cons_succ, i64_w, i32_w]
            rfl
           refine pure_ (i := 3) (N := some 14) (v := ?_) (a' := ?_) #[true, true, true, true, true, true, false, false, true, true, false, false, true, true, false, false, true, true, false, false, true, true, false, false, true, true, false, false, false, true, true, false, false, false, false, false, false] rfl rfl (any_of HT_.out (by kernel_rfl)) (fun _ _ _ h => h) (Or.inl ⟨by rfl, ?_⟩) ?_ ?_
           rotate_left
           ·
            intro w'
            go_simp
            with_reducible rfl
           rotate_left
           ·
            simp only [Act.put, List.setIfInBounds_toArray, List.set_cons_zero, List.set_cons_succ, i64_w, i32_w]
            rfl
           refine take_ (i := 6) (N := some 17) (v := ?_) (a' := ?_) #[true, true, true, true, true, true, true, false, true, true, false, false, true, true, false, false, true, true, false, false, true, true, false, false, true, true, false, false, false, true, true, false, false, false, false, false, false] rfl rfl (take_ofW HT_.out HW_.out (by kernel_rfl)) (fun _ _ _ h => h) (Or.inl ⟨by rfl, ?_⟩) hHeld ?_ ?_
           rotate_left
           ·
            rintro w' ⟨s0, s1, s2, s3, s4, s5, s6, s7⟩
            go_simp
            with_reducible rfl
           rotate_left
           ·
            simp only [Act.put, List.setIfInBounds_toArray, List.set_cons_zero, List.set_cons_succ, i64_w, i32_w]
            rfl
           refine pure_ (i := 7) (N := some 18) (v := ?_) (a' := ?_) #[true, true, true, true, true, true, true, true, true, true, false, false, true, true, false, false, true, true, false, false, true, true, false, false, true, true, false, false, false, true, true, false, false, false, false, false, false] rfl rfl (any_of HT_.out (by kernel_rfl)) (fun _ _ _ h => h) (Or.inl ⟨by rfl, ?_⟩) ?_ ?_
           rotate_left
           ·
            intro w'
            go_simp
            with_reducible rfl
           rotate_left
           ·
            simp only [Act.put, List.setIfInBounds_toArray, List.set_cons_zero, List.set_cons_succ, i64_w, i32_w]
            rfl
           refine take_ (i := 10) (N := some 21) (v := ?_) (a' := ?_) #[true, true, true, true, true, true, true, true, true, true, true, false, true, true, false, false, true, true, false, false, true, true, false, false, true, true, false, false, false, true, true, false, false, false, false, false, false] rfl rfl (take_ofW HT_.out HW_.out (by kernel_rfl)) (fun _ _ _ h => h) (Or.inl ⟨by rfl, ?_⟩) hHeld ?_ ?_
           rotate_left
           ·
            rintro w' ⟨s0, s1, s2, s3, s4, s5, s6, s7⟩
            go_simp
            with_reducible rfl
           rotate_left
           ·
            simp only [Act.put, List.setIfInBounds_toArray, List.set_cons_zero, List.set_cons_succ, i64_w, i32_w]
            rfl
           refine take_ (i := 14) (N := some 25) (v := ?_) (a' := ?_) #[true, true, true, true, true, true, true, true, true, true, true, false, true, true, true, false, true, true, false, false, true, true, false, false, true, true, false, false, false, true, true, false, false, false, false, false, false] rfl rfl (take_ofW HT_.out HW_.out (by kernel_rfl)) (fun _ _ _ h => h) (Or.inl ⟨by rfl, ?_⟩) hHeld ?_ ?_
           rotate_left
           ·
            rintro w' ⟨s0, s1, s2, s3, s4, s5, s6, s7⟩
            go_simp
            with_reducible rfl
           rotate_left
           ·
            simp only [Act.put, List.setIfInBounds_toArray, List.set_cons_zero, List.set_cons_succ, i64_w, i32_w]
            rfl
           refine take_ (i := 18) (N := some 29) (v := ?_) (a' := ?_) #[true, true, true, true, true, true, true, true, true, true, true, false, true, true, true, false, true, true, true, false, true, true, false, false, true, true, false, false, false, true, true, false, false, false, false, false, false] rfl rfl (take_ofW HT_.out HW_.out (by kernel_rfl)) (fun _ _ _ h => h) (Or.inl ⟨by rfl, ?_⟩) hHeld ?_ ?_
           rotate_left
           ·
            rintro w' ⟨s0, s1, s2, s3, s4, s5, s6, s7⟩
            go_simp
            with_reducible rfl
           rotate_left
           ·
            simp only [Act.put, List.setIfInBounds_toArray, List.set_cons_zero, List.set_cons_succ, i64_w, i32_w]
            rfl
           refine take_ (i := 22) (N := some 33) (v := ?_) (a' := ?_) #[true, true, true, true, true, true, true, true, true, true, true, false, true, true, true, false, true, true, true, false, true, true, true, false, true, true, false, false, false, true, true, false, false, false, false, false, false] rfl rfl (take_ofW HT_.out HW_.out (by kernel_rfl)) (fun _ _ _ h => h) (Or.inl ⟨by rfl, ?_⟩) hHeld ?_ ?_
           rotate_left
           ·
            rintro w' ⟨s0, s1, s2, s3, s4, s5, s6, s7⟩
            go_simp
            with_reducible rfl
           rotate_left
           ·
            simp only [Act.put, List.setIfInBounds_toArray, List.set_cons_zero, List.set_cons_succ, i64_w, i32_w]
            rfl
           refine take_ (i := 26) (N := some 37) (v := ?_) (a' := ?_) #[true, true, true, true, true, true, true, true, true, true, true, false, true, true, true, false, true, true, true, false, true, true, true, false, true, true, true, false, false, true, true, false, false, false, false, false, false] rfl rfl (take_ofW HT_.out HW_.out (by kernel_rfl)) (fun _ _ _ h => h) (Or.inl ⟨by rfl, ?_⟩) hHeld ?_ ?_
           rotate_left
           ·
            rintro w' ⟨s0, s1, s2, s3, s4, s5, s6, s7⟩
            go_simp
            with_reducible rfl
           rotate_left
           ·
            simp only [Act.put, List.setIfInBounds_toArray, List.set_cons_zero, List.set_cons_succ, i64_w, i32_w]
            rfl
           refine pure_ (i := 27) (N := some 38) (v := ?_) (a' := ?_) #[true, true, true, true, true, true, true, true, true, true, true, false, true, true, true, false, true, true, true, false, true, true, true, false, true, true, true, true, false, true, true, false, false, false, false, false, false] rfl rfl (any_of HT_.out (by kernel_rfl)) (fun _ _ _ h => h) (Or.inl ⟨by rfl, ?_⟩) ?_ ?_
           rotate_left
           ·
            intro w'
            go_simp
            with_reducible rfl
           rotate_left
           ·
            simp only [Act.put, List.setIfInBounds_toArray, List.set_cons_zero, List.set_cons_succ, i64_w, i32_w]
            rfl
           refine pure_ (i := 28) (N := some 39) (v := ?_) (a' := ?_) #[true, true, true, true, true, true, true, true, true, true, true, false, true, true, true, false, true, true, true, false, true, true, true, false, true, true, true, true, true, true, true, false, false, false, false, false, false] rfl rfl (any_of HT_.out (by kernel_rfl)) (fun _ _ _ h => h) (Or.inl ⟨by rfl, ?_⟩) ?_ ?_
           rotate_left
           ·
            intro w'
            go_simp
            with_reducible rfl
           rotate_left
           ·
            simp only [Act.put, List.setIfInBounds_toArray, List.set_cons_zero, List.set_cons_succ, i64_w, i32_w]
            rfl
           refine take_ (i := 31) (N := some 42) (v := ?_) (a' := ?_) #[true, true, true, true, true, true, true, true, true, true, true, false, true, true, true, false, true, true, true, false, true, true, true, false, true, true, true, true, true, true, true, true, false, false, false, false, false] rfl rfl (take_ofW HT_.out HW_.out (by kernel_rfl)) (fun _ _ _ h => h) (Or.inl ⟨by rfl, ?_⟩) hHeld ?_ ?_
           rotate_left
           ·
            rintro w' ⟨s0, s1, s2, s3, s4, s5, s6, s7⟩
            go_simp
            with_reducible rfl
           rotate_left
           ·
            simp only [Act.put, List.setIfInBounds_toArray, List.set_cons_zero, List.set_cons_succ, i64_w, i32_w]
            rfl
           refine pure_ (i := 32) (N := some 43) (v := ?_) (a' := ?_) #[true, true, true, true, true, true, true, true, true, true, true, false, true, true, true, false, true, true, true, false, true, true, true, false, true, true, true, true, true, true, true, true, true, false, false, false, false] rfl rfl (any_of HT_.out (by kernel_rfl)) (fun _ _ _ h => h) (Or.inl ⟨by rfl, ?_⟩) ?_ ?_
           rotate_left
           ·
            intro w'
            go_simp
            with_reducible rfl
           rotate_left
           ·
            simp only [Act.put, List.setIfInBounds_toArray, List.set_cons_zero, List.set_cons_succ, i64_w, i32_w]
            rfl
           refine pure_ (i := 33) (N := some 44) (v := ?_) (a' := ?_) #[true, true, true, true, true, true, true, true, true, true, true, false, true, true, true, false, true, true, true, false, true, true, true, false, true, true, true, true, true, true, true, true, true, true, false, false, false] rfl rfl (any_of HT_.out (by kernel_rfl)) (fun _ _ _ h => h) (Or.inl ⟨by rfl, ?_⟩) ?_ ?_
           rotate_left
           ·
            intro w'
            go_simp
            with_reducible rfl
           rotate_left
           ·
            simp only [Act.put, List.setIfInBounds_toArray, List.set_cons_zero, List.set_cons_succ, i64_w, i32_w]
            rfl
           refine join_ (σ := Nat) 1 #[true, true, true, true, true, true, true, true, true, true, true, true, true, true, true, true, true, true, true, true, true, true, true, true, true, true, true, true, true, true, true, true, true, true, true, true, false] (fun s_ => [(22, .int .i64 t342), (26, .int .i64 t344), (30, .int .i64 t346), (34, .int .i64 t348), (4, .pointer (some ⟨s_, 0, none⟩)), (45, .agg #[.int .i64 (wrap64 (rd l0 0)), .int .i64 (wrap64 (rd l0 1)), .int .i64 t342, .int .i64 t344, .int .i64 t346, .int .i64 t348, .int .u64 0, .int .i64 (Go.bits .or .i64 (wrap64 ((wrap64 (rd l0 6)) * 256)) (wrap64 (rd l0 7)))])]) (fun s_ w' => (w'.cell? ad339 = some (.int .u8 (rd l0 0)) ∧ w'.cell? ⟨ad339.block, ad339.off + 1, none⟩ = some (.int .u8 (rd l0 1)) ∧ w'.cell? ⟨ad339.block, ad339.off + 2, none⟩ = some (.int .u8 (rd l0 2)) ∧ w'.cell? ⟨ad339.block, ad339.off + 3, none⟩ = some (.int .u8 (rd l0 3)) ∧ w'.cell? ⟨ad339.block, ad339.off + 4, none⟩ = some (.int .u8 (rd l0 4)) ∧ w'.cell? ⟨ad339.block, ad339.off + 5, none⟩ = some (.int .u8 (rd l0 5)) ∧ w'.cell? ⟨ad339.block, ad339.off + 6, none⟩ = some (.int .u8 (rd l0 6)) ∧ w'.cell? ⟨ad339.block, ad339.off + 7, none⟩ = some (.int .u8 (rd l0 7))) ∧ (w'.heap[gb338]? = some (.cells #[.int .i64 0, .int .i64 0, .int .i64 0, .int .i64 0, .int .i64 0, .int .i64 0, .int .u64 0, .int .i64 0] 46 (0, 0))) ∧ (w'.heap[s_]? = some (.cells #[.int .i64 0, .int .i64 0, .int .i64 0, .int .i64 0, .int .i64 0, .int .i64 0, .int .u64 0, .int .i64 0] 46 (0, 0))) ∧ (w.heap.size ≤ s_) ∧ (w.heap.size ≤ s_) ∧ (gb338 ≠ s_) ∧ (s_ ≠ gb338) ∧ (Below w.heap.size w w')) ?_ ?_
           rotate_left
           ·
            intro hJ11_15_19_23_35
            refine join_ (σ := Unit) 2 #[true, true, true, true, true, true, true, true, true, true, true, true, true, true, true, true, true, true, true, true, true, true, true, true, true, true, true, true, true, true, true, true, true, true, true, false, false] (fun s_ => [(22, .int .i64 t342), (26, .int .i64 t344), (30, .int .i64 t346), (34, .int .i64 t348), (45, .agg #[.int .i64 (wrap64 (rd l0 0)), .int .i64 (wrap64 (rd l0 1)), .int .i64 t342, .int .i64 t344, .int .i64 t346, .int .i64 t348, .int .u64 0, .int .i64 (Go.bits .or .i64 (wrap64 ((wrap64 (rd l0 6)) * 256)) (wrap64 (rd l0 7)))])]) (fun s_ w' => (w'.cell? ad339 = some (.int .u8 (rd l0 0)) ∧ w'.cell? ⟨ad339.block, ad339.off + 1, none⟩ = some (.int .u8 (rd l0 1)) ∧ w'.cell? ⟨ad339.block, ad339.off + 2, none⟩ = some (.int .u8 (rd l0 2)) ∧ w'.cell? ⟨ad339.block, ad339.off + 3, none⟩ = some (.int .u8 (rd l0 3)) ∧ w'.cell? ⟨ad339.block, ad339.off + 4, none⟩ = some (.int .u8 (rd l0 4)) ∧ w'.cell? ⟨ad339.block, ad339.off + 5, none⟩ = some (.int .u8 (rd l0 5)) ∧ w'.cell? ⟨ad339.block, ad339.off + 6, none⟩ = some (.int .u8 (rd l0 6)) ∧ w'.cell? ⟨ad339.block, ad339.off + 7, none⟩ = some (.int .u8 (rd l0 7))) ∧ (w'.heap[gb338]? = some (.cells #[.int .i64 0, .int .i64 0, .int .i64 0, .int .i64 0, .int .i64 0, .int .i64 0, .int .u64 0, .int .i64 0] 46 (0, 0))) ∧ (Below w.heap.size w w')) ?_ ?_
            rotate_left
            ·
             intro hJ11_15_19_23
             refine join_ (σ := Nat) 3 #[true, true, true, true, true, true, true, true, true, true, true, true, true, true, true, true, true, true, true, true, true, true, true, false, true, true, true, true, true, true, true, true, true, true, false, true, false] (fun s_ => [(22, .int .i64 t342), (26, .int .i64 t344), (30, .int .i64 t346), (4, .pointer (some ⟨s_, 0, none⟩))]) (fun s_ w' => (w'.cell? ad339 = some (.int .u8 (rd l0 0)) ∧ w'.cell? ⟨ad339.block, ad339.off + 1, none⟩ = some (.int .u8 (rd l0 1)) ∧ w'.cell? ⟨ad339.block, ad339.off + 2, none⟩ = some (.int .u8 (rd l0 2)) ∧ w'.cell? ⟨ad339.block, ad339.off + 3, none⟩ = some (.int .u8 (rd l0 3)) ∧ w'.cell? ⟨ad339.block, ad339.off + 4, none⟩ = some (.int .u8 (rd l0 4)) ∧ w'.cell? ⟨ad339.block, ad339.off + 5, none⟩ = some (.int .u8 (rd l0 5)) ∧ w'.cell? ⟨ad339.block, ad339.off + 6, none⟩ = some (.int .u8 (rd l0 6)) ∧ w'.cell? ⟨ad339.block, ad339.off + 7, none⟩ = some (.int .u8 (rd l0 7))) ∧ (w'.heap[gb338]? = some (.cells #[.int .i64 0, .int .i64 0, .int .i64 0, .int .i64 0, .int .i64 0, .int .i64 0, .int .u64 0, .int .i64 0] 46 (0, 0))) ∧ (w'.heap[s_]? = some (.cells #[.int .i64 0, .int .i64 0, .int .i64 0, .int .i64 0, .int .i64 0, .int .i64 0, .int .u64 0, .int .i64 0] 46 (0, 0))) ∧ (w.heap.size ≤ s_) ∧ (w.heap.size ≤ s_) ∧ (gb338 ≠ s_) ∧ (s_ ≠ gb338) ∧ (Below w.heap.size w w')) ?_ ?_
             rotate_left
             ·
              intro hJ11_15_19_35
              refine join_ (σ := Unit) 4 #[true, true, true, true, true, true, true, true, true, true, true, true, true, true, true, true, true, true, true, true, true, true, true, false, true, true, true, true, true, true, true, true, true, true, false, false, false] (fun s_ => [(22, .int .i64 t342), (26, .int .i64 t344), (30, .int .i64 t346)]) (fun s_ w' => (w'.cell? ad339 = some (.int .u8 (rd l0 0)) ∧ w'.cell? ⟨ad339.block, ad339.off + 1, none⟩ = some (.int .u8 (rd l0 1)) ∧ w'.cell? ⟨ad339.block, ad339.off + 2, none⟩ = some (.int .u8 (rd l0 2)) ∧ w'.cell? ⟨ad339.block, ad339.off + 3, none⟩ = some (.int .u8 (rd l0 3)) ∧ w'.cell? ⟨ad339.block, ad339.off + 4, none⟩ = some (.int .u8 (rd l0 4)) ∧ w'.cell? ⟨ad339.block, ad339.off + 5, none⟩ = some (.int .u8 (rd l0 5)) ∧ w'.cell? ⟨ad339.block, ad339.off + 6, none⟩ = some (.int .u8 (rd l0 6)) ∧ w'.cell? ⟨ad339.block, ad339.off + 7, none⟩ = some (.int .u8 (rd l0 7))) ∧ (w'.heap[gb338]? = some (.cells #[.int .i64 0, .int .i64 0, .int .i64 0, .int .i64 0, .int .i64 0, .int .i64 0, .int .u64 0, .int .i64 0] 46 (0, 0))) ∧ (Below w.heap.size w w')) ?_ ?_
              rotate_left
              ·
               intro hJ11_15_19
               refine join_ (σ := Nat) 4 #[true, true, true, true, true, true, true, true, true, true, true, true, true, true, true, true, true, true, true, false, true, true, true, false, true, true, true, true, true, true, true, true, true, true, false, true, false] (fun s_ => [(22, .int .i64 t342), (26, .int .i64 t344), (4, .pointer (some ⟨s_, 0, none⟩))]) (fun s_ w' => (w'.cell? ad339 = some (.int .u8 (rd l0 0)) ∧ w'.cell? ⟨ad339.block, ad339.off + 1, none⟩ = some (.int .u8 (rd l0 1)) ∧ w'.cell? ⟨ad339.block, ad339.off + 2, none⟩ = some (.int .u8 (rd l0 2)) ∧ w'.cell? ⟨ad339.block, ad339.off + 3, none⟩ = some (.int .u8 (rd l0 3)) ∧ w'.cell? ⟨ad339.block, ad339.off + 4, none⟩ = some (.int .u8 (rd l0 4)) ∧ w'.cell? ⟨ad339.block, ad339.off + 5, none⟩ = some (.int .u8 (rd l0 5)) ∧ w'.cell? ⟨ad339.block, ad339.off + 6, none⟩ = some (.int .u8 (rd l0 6)) ∧ w'.cell? ⟨ad339.block, ad339.off + 7, none⟩ = some (.int .u8 (rd l0 7))) ∧ (w'.heap[gb338]? = some (.cells #[.int .i64 0, .int .i64 0, .int .i64 0, .int .i64 0, .int .i64 0, .int .i64 0, .int .u64 0, .int .i64 0] 46 (0, 0))) ∧ (w'.heap[s_]? = some (.cells #[.int .i64 0, .int .i64 0, .int .i64 0, .int .i64 0, .int .i64 0, .int .i64 0, .int .u64 0, .int .i64 0] 46 (0, 0))) ∧ (w.heap.size ≤ s_) ∧ (w.heap.size ≤ s_) ∧ (gb338 ≠ s_) ∧ (s_ ≠ gb338) ∧ (Below w.heap.size w w')) ?_ ?_
               rotate_left
               ·
                intro hJ11_15_35
                refine join_ (σ := Unit) 5 #[true, true, true, true, true, true, true, true, true, true, true, true, true, true, true, true, true, true, true, false, true, true, true, false, true, true, true, true, true, true, true, true, true, true, false, false, false] (fun s_ => [(22, .int .i64 t342), (26, .int .i64 t344)]) (fun s_ w' => (w'.cell? ad339 = some (.int .u8 (rd l0 0)) ∧ w'.cell? ⟨ad339.block, ad339.off + 1, none⟩ = some (.int .u8 (rd l0 1)) ∧ w'.cell? ⟨ad339.block, ad339.off + 2, none⟩ = some (.int .u8 (rd l0 2)) ∧ w'.cell? ⟨ad339.block, ad339.off + 3, none⟩ = some (.int .u8 (rd l0 3)) ∧ w'.cell? ⟨ad339.block, ad339.off + 4, none⟩ = some (.int .u8 (rd l0 4)) ∧ w'.cell? ⟨ad339.block, ad339.off + 5, none⟩ = some (.int .u8 (rd l0 5)) ∧ w'.cell? ⟨ad339.block, ad339.off + 6, none⟩ = some (.int .u8 (rd l0 6)) ∧ w'.cell? ⟨ad339.block, ad339.off + 7, none⟩ = some (.int .u8 (rd l0 7))) ∧ (w'.heap[gb338]? = some (.cells #[.int .i64 0, .int .i64 0, .int .i64 0, .int .i64 0, .int .i64 0, .int .i64 0, .int .u64 0, .int .i64 0] 46 (0, 0))) ∧ (Below w.heap.size w w')) ?_ ?_
                rotate_left
                ·
                 intro hJ11_15
                 refine join_ (σ := Nat) 5 #[true, true, true, true, true, true, true, true, true, true, true, true, true, true, true, false, true, true, true, false, true, true, true, false, true, true, true, true, true, true, true, true, true, true, false, true, false] (fun s_ => [(22, .int .i64 t342), (4, .pointer (some ⟨s_, 0, none⟩))]) (fun s_ w' => (w'.cell? ad339 = some (.int .u8 (rd l0 0)) ∧ w'.cell? ⟨ad339.block, ad339.off + 1, none⟩ = some (.int .u8 (rd l0 1)) ∧ w'.cell? ⟨ad339.block, ad339.off + 2, none⟩ = some (.int .u8 (rd l0 2)) ∧ w'.cell? ⟨ad339.block, ad339.off + 3, none⟩ = some (.int .u8 (rd l0 3)) ∧ w'.cell? ⟨ad339.block, ad339.off + 4, none⟩ = some (.int .u8 (rd l0 4)) ∧ w'.cell? ⟨ad339.block, ad339.off + 5, none⟩ = some (.int .u8 (rd l0 5)) ∧ w'.cell? ⟨ad339.block, ad339.off + 6, none⟩ = some (.int .u8 (rd l0 6)) ∧ w'.cell? ⟨ad339.block, ad339.off + 7, none⟩ = some (.int .u8 (rd l0 7))) ∧ (w'.heap[gb338]? = some (.cells #[.int .i64 0, .int .i64 0, .int .i64 0, .int .i64 0, .int .i64 0, .int .i64 0, .int .u64 0, .int .i64 0] 46 (0, 0))) ∧ (w'.heap[s_]? = some (.cells #[.int .i64 0, .int .i64 0, .int .i64 0, .int .i64 0, .int .i64 0, .int .i64 0, .int .u64 0, .int .i64 0] 46 (0, 0))) ∧ (w.heap.size ≤ s_) ∧ (w.heap.size ≤ s_) ∧ (gb338 ≠ s_) ∧ (s_ ≠ gb338) ∧ (Below w.heap.size w w')) ?_ ?_
                 rotate_left
                 ·
                  intro hJ11_35
                  refine join_ (σ := Unit) 6 #[true, true, true, true, true, true, true, true, true, true, true, true, true, true, true, false, true, true, true, false, true, true, true, false, true, true, true, true, true, true, true, true, true, true, false, false, false] (fun s_ => [(22, .int .i64 t342)]) (fun s_ w' => (w'.cell? ad339 = some (.int .u8 (rd l0 0)) ∧ w'.cell? ⟨ad339.block, ad339.off + 1, none⟩ = some (.int .u8 (rd l0 1)) ∧ w'.cell? ⟨ad339.block, ad339.off + 2, none⟩ = some (.int .u8 (rd l0 2)) ∧ w'.cell? ⟨ad339.block, ad339.off + 3, none⟩ = some (.int .u8 (rd l0 3)) ∧ w'.cell? ⟨ad339.block, ad339.off + 4, none⟩ = some (.int .u8 (rd l0 4)) ∧ w'.cell? ⟨ad339.block, ad339.off + 5, none⟩ = some (.int .u8 (rd l0 5)) ∧ w'.cell? ⟨ad339.block, ad339.off + 6, none⟩ = some (.int .u8 (rd l0 6)) ∧ w'.cell? ⟨ad339.block, ad339.off + 7, none⟩ = some (.int .u8 (rd l0 7))) ∧ (w'.heap[gb338]? = some (.cells #[.int .i64 0, .int .i64 0, .int .i64 0, .int .i64 0, .int .i64 0, .int .i64 0, .int .u64 0, .int .i64 0] 46 (0, 0))) ∧ (Below w.heap.size w w')) ?_ ?_
                  rotate_left
                  ·
                   intro hJ11
                   refine join_ (σ := Nat) 6 #[true, true, true, true, true, true, true, true, true, true, true, false, true, true, true, false, true, true, true, false, true, true, true, false, true, true, true, true, true, true, true, true, true, true, false, true, false] (fun s_ => [(4, .pointer (some ⟨s_, 0, none⟩))]) (fun s_ w' => (w'.cell? ad339 = some (.int .u8 (rd l0 0)) ∧ w'.cell? ⟨ad339.block, ad339.off + 1, none⟩ = some (.int .u8 (rd l0 1)) ∧ w'.cell? ⟨ad339.block, ad339.off + 2, none⟩ = some (.int .u8 (rd l0 2)) ∧ w'.cell? ⟨ad339.block, ad339.off + 3, none⟩ = some (.int .u8 (rd l0 3)) ∧ w'.cell? ⟨ad339.block, ad339.off + 4, none⟩ = some (.int .u8 (rd l0 4)) ∧ w'.cell? ⟨ad339.block, ad339.off + 5, none⟩ = some (.int .u8 (rd l0 5)) ∧ w'.cell? ⟨ad339.block, ad339.off + 6, none⟩ = some (.int .u8 (rd l0 6)) ∧ w'.cell? ⟨ad339.block, ad339.off + 7, none⟩ = some (.int .u8 (rd l0 7))) ∧ (w'.heap[gb338]? = some (.cells #[.int .i64 0, .int .i64 0, .int .i64 0, .int .i64 0, .int .i64 0, .int .i64 0, .int .u64 0, .int .i64 0] 46 (0, 0))) ∧ (w'.heap[s_]? = some (.cells #[.int .i64 0, .int .i64 0, .int .i64 0, .int .i64 0, .int .i64 0, .int .i64 0, .int .u64 0, .int .i64 0] 46 (0, 0))) ∧ (w.heap.size ≤ s_) ∧ (w.heap.size ≤ s_) ∧ (gb338 ≠ s_) ∧ (s_ ≠ gb338) ∧ (Below w.heap.size w w')) ?_ ?_
                   rotate_left
                   ·
                    intro hJ35
                    refine two_ (i := 11) (j := 35) (Ni := some 22) (Nj := some 4) #[true, true, true, true, true, true, true, true, true, true, true, true, true, true, true, false, true, true, true, false, true, true, true, false, true, true, true, true, true, true, true, true, true, true, false, false, false] #[true, true, true, true, true, true, true, true, true, true, true, false, true, true, true, false, true, true, true, false, true, true, true, false, true, true, true, true, true, true, true, true, true, true, false, true, false] rfl rfl rfl rfl (two_of HT_.out (by kernel_rfl)) (by decide) (by decide) (fun K hK => ?_) (fun K hK => ?_)
                    ·
                     skip
                     refine goes_ Try.func36 (by kernel_rfl) rfl #[.int .u8 (rd l0 2)] (by rfl) rfl rfl (by (try simp only [List.map_toArray, List.map_cons, List.map_nil]); first | done | rfl | (simp only [List.length_drop, List.length_take]; rfl)) ?_
                     with_reducible refine (encode_back.calls (rd l0 2) t342 _ A6.out).mono ?_
                     rintro e w' ⟨rfl, ⟨nd, rfl⟩⟩
                     refine ⟨_, rfl, ?_⟩
                     refine hK.out _ _ ⟨((HB.out.cell (World.block_lt_of_cell? w _ hw339_0)).trans hw339_0), ((HB.out.cell (World.block_lt_of_cell? w _ hw340_0)).trans hw340_0), ((HB.out.cell (World.block_lt_of_cell? w _ hw341_0)).trans hw341_0), ((HB.out.cell (World.block_lt_of_cell? w _ hw343_0)).trans hw343_0), ((HB.out.cell (World.block_lt_of_cell? w _ hw345_0)).trans hw345_0), ((HB.out.cell (World.block_lt_of_cell? w _ hw347_0)).trans hw347_0), ((HB.out.cell (World.block_lt_of_cell? w _ hw349_0)).trans hw349_0), ((HB.out.cell (World.block_lt_of_cell? w _ hw350_0)).trans hw350_0)⟩ (fun hHeld => ?_)
                     clear hK K
                     refine norm_ (a' := ?_) ?_ ?_
                     rotate_left
                     ·
                      show Act.put _ (some 22) _ = _
                      simp only [Act.put, List.setIfInBounds_toArray, List.set_cons_zero, List.set_cons_succ, i64_w, i32_w]
                      rfl
                     exact norm_ (by first | (simp only [putAll, Act.put, List.setIfInBounds_toArray, List.set_cons_zero, List.set_cons_succ]; done) | (simp only [putAll, Act.put, List.setIfInBounds_toArray, List.set_cons_zero, List.set_cons_succ]; rfl)) (hJ11 () _ ⟨hHeld, (by (with_reducible repeat (first | refine blk_drewN ?_ _ | refine blk_drew ?_ | refine blk_alloc ?_ _)); exact BK338.out), (by repeat (first | (with_reducible first | exact HB.out | apply below_alloc | apply pw_below_drewN | apply below_drew1 | refine below_set ?_ GE338.out) | exact HB.out))⟩)
                    ·
                     skip
                     refine box_step ?hg (N := 4) ?hd (cs := #[.int .i64 0, .int .i64 0, .int .i64 0, .int .i64 0, .int .i64 0, .int .i64 0, .int .u64 0, .int .i64 0]) (t := 46) ?hr ?_; (case hd => rfl); (case hg => rfl); (case hr => first | (go_simp; done) | (go_simp; rfl))
                     intro gb351 hg w18 hbox hb
                     have n0_ := Aside0.mk (blk_below (g := gb338) (o := .cells #[.int .i64 0, .int .i64 0, .int .i64 0, .int .i64 0, .int .i64 0, .int .i64 0, .int .u64 0, .int .i64 0] 46 (0, 0)) (by (with_reducible repeat (first | refine blk_drewN ?_ _ | refine blk_drew ?_ | refine blk_alloc ?_ _)); exact BK338.out) hb)
                     have n1_ := Aside0.mk (below_step (by repeat (first | (with_reducible first | exact HB.out | apply below_alloc | apply pw_below_drewN | apply below_drew1 | refine below_set ?_ GE338.out) | exact HB.out)) hb)
                     have n2_ := Aside0.mk (hbox)
                     have n3_ := Aside0.mk ((by rw [hg]; exact (below_size (by repeat (first | (with_reducible first | exact HB.out | apply below_alloc | apply pw_below_drewN | apply below_drew1 | refine below_set ?_ GE338.out) | exact HB.out))) : w.heap.size ≤ gb351))
                     have n4_ := Aside0.mk ((by rw [hg]; exact (below_size (by repeat (first | (with_reducible first | exact HB.out | apply below_alloc | apply pw_below_drewN | apply below_drew1 | refine below_set ?_ GE338.out) | exact HB.out))) : w.heap.size ≤ gb351))
                     have n5_ := Aside0.mk ((by rw [hg]; exact Nat.ne_of_lt (blk_lt (g := gb338) (o := .cells #[.int .i64 0, .int .i64 0, .int .i64 0, .int .i64 0, .int .i64 0, .int .i64 0, .int .u64 0, .int .i64 0] 46 (0, 0)) (by (with_reducible repeat (first | refine blk_drewN ?_ _ | refine blk_drew ?_ | refine blk_alloc ?_ _)); exact BK338.out)) : gb338 ≠ gb351))
                     have n6_ := Aside0.mk ((by rw [hg]; exact Nat.ne_of_gt (blk_lt (g := gb338) (o := .cells #[.int .i64 0, .int .i64 0, .int .i64 0, .int .i64 0, .int .i64 0, .int .i64 0, .int .u64 0, .int .i64 0] 46 (0, 0)) (by (with_reducible repeat (first | refine blk_drewN ?_ _ | refine blk_drew ?_ | refine blk_alloc ?_ _)); exact BK338.out)) : gb351 ≠ gb338))
                     clear BK338
                     clear HB
                     have BK338 := n0_
                     have HB := n1_
                     have BK351 := n2_
                     have GW351 := n3_
                     have GE351 := n4_
                     have NB338_351 := n5_
                     have NB351_338 := n6_
                     clear n0_ n1_ n2_ n3_ n4_ n5_ n6_
                     clear hb hbox hg
                     refine hK.out _ _ ⟨((HB.out.cell (World.block_lt_of_cell? w _ hw339_0)).trans hw339_0), ((HB.out.cell (World.block_lt_of_cell? w _ hw340_0)).trans hw340_0), ((HB.out.cell (World.block_lt_of_cell? w _ hw341_0)).trans hw341_0), ((HB.out.cell (World.block_lt_of_cell? w _ hw343_0)).trans hw343_0), ((HB.out.cell (World.block_lt_of_cell? w _ hw345_0)).trans hw345_0), ((HB.out.cell (World.block_lt_of_cell? w _ hw347_0)).trans hw347_0), ((HB.out.cell (World.block_lt_of_cell? w _ hw349_0)).trans hw349_0), ((HB.out.cell (World.block_lt_of_cell? w _ hw350_0)).trans hw350_0)⟩ (fun hHeld => ?_)
                     clear hK K
                     refine norm_ (a' := ?_) ?_ ?_
                     rotate_left
                     ·
                      show Act.put _ (some 4) _ = _
                      simp only [Act.put, List.setIfInBounds_toArray, List.set_cons_zero, List.set_cons_succ, i64_w, i32_w]
                      rfl
                     exact norm_ (by first | (simp only [putAll, Act.put, List.setIfInBounds_toArray, List.set_cons_zero, List.set_cons_succ]; done) | (simp only [putAll, Act.put, List.setIfInBounds_toArray, List.set_cons_zero, List.set_cons_succ]; rfl)) (hJ35 (gb351) _ ⟨hHeld, (by (with_reducible repeat (first | refine blk_drewN ?_ _ | refine blk_drew ?_ | refine blk_alloc ?_ _)); exact BK338.out), (by (with_reducible repeat (first | refine blk_drewN ?_ _ | refine blk_drew ?_ | refine blk_alloc ?_ _)); exact BK351.out), GW351.out, GE351.out, NB338_351.out, NB351_338.out, (by repeat (first | (with_reducible first | exact HB.out | apply below_alloc | apply pw_below_drewN | apply below_drew1 | refine below_set ?_ GE338.out | refine below_set ?_ GE351.out) | exact HB.out))⟩)
                   ·
                    skip
                    rintro gb351 w19 ⟨hS_, h0_, h1_, h2_, h3_, h4_, h5_, h6_⟩
                    have n0_ : Aside0 (w19.heap[gb338]? = some (.cells #[.int .i64 0, .int .i64 0, .int .i64 0, .int .i64 0, .int .i64 0, .int .i64 0, .int .u64 0, .int .i64 0] 46 (0, 0))) := ⟨h0_⟩
                    have n1_ : Aside0 (w19.heap[gb351]? = some (.cells #[.int .i64 0, .int .i64 0, .int .i64 0, .int .i64 0, .int .i64 0, .int .i64 0, .int .u64 0, .int .i64 0] 46 (0, 0))) := ⟨h1_⟩
                    have n2_ : Aside0 (w.heap.size ≤ gb351) := ⟨h2_⟩
                    have n3_ : Aside0 (w.heap.size ≤ gb351) := ⟨h3_⟩
                    have n4_ : Aside0 (gb338 ≠ gb351) := ⟨h4_⟩
                    have n5_ : Aside0 (gb351 ≠ gb338) := ⟨h5_⟩
                    have n6_ : Aside0 (Below w.heap.size w w19) := ⟨h6_⟩
                    clear BK338
                    clear HB
                    clear h0_ h1_ h2_ h3_ h4_ h5_ h6_
                    have BK338 := n0_
                    have BK351 := n1_
                    have GW351 := n2_
                    have GE351 := n3_
                    have NB338_351 := n4_
                    have NB351_338 := n5_
                    have HB := n6_
                    clear n0_ n1_ n2_ n3_ n4_ n5_ n6_
                    have hHeld : w19.cell? ad339 = some (.int .u8 (rd l0 0)) ∧ w19.cell? ⟨ad339.block, ad339.off + 1, none⟩ = some (.int .u8 (rd l0 1)) ∧ w19.cell? ⟨ad339.block, ad339.off + 2, none⟩ = some (.int .u8 (rd l0 2)) ∧ w19.cell? ⟨ad339.block, ad339.off + 3, none⟩ = some (.int .u8 (rd l0 3)) ∧ w19.cell? ⟨ad339.block, ad339.off + 4, none⟩ = some (.int .u8 (rd l0 4)) ∧ w19.cell? ⟨ad339.block, ad339.off + 5, none⟩ = some (.int .u8 (rd l0 5)) ∧ w19.cell? ⟨ad339.block, ad339.off + 6, none⟩ = some (.int .u8 (rd l0 6)) ∧ w19.cell? ⟨ad339.block, ad339.off + 7, none⟩ = some (.int .u8 (rd l0 7)) := hS_
                    refine norm_ (a' := ?_) ?_ ?_
                    rotate_left
                    ·
                     simp only [putAll, Act.put, List.setIfInBounds_toArray, List.set_cons_zero, List.set_cons_succ]
                     rfl
                    refine one_ (i := 11) (N := some 22) #[true, true, true, true, true, true, true, true, true, true, true, true, true, true, true, false, true, true, true, false, true, true, true, false, true, true, true, true, true, true, true, true, true, true, false, true, false] rfl rfl (one_of HT_.out (by kernel_rfl)) (by decide) (fun K hK => ?_)
                    refine goes_ Try.func36 (by kernel_rfl) rfl #[.int .u8 (rd l0 2)] (by rfl) rfl rfl (by (try simp only [List.map_toArray, List.map_cons, List.map_nil]); first | done | rfl | (simp only [List.length_drop, List.length_take]; rfl)) ?_
                    with_reducible refine (encode_back.calls (rd l0 2) t342 _ A6.out).mono ?_
                    rintro e w' ⟨rfl, ⟨nd, rfl⟩⟩
                    refine ⟨_, rfl, ?_⟩
                    refine hK.out _ _ ⟨((HB.out.cell (World.block_lt_of_cell? w _ hw339_0)).trans hw339_0), ((HB.out.cell (World.block_lt_of_cell? w _ hw340_0)).trans hw340_0), ((HB.out.cell (World.block_lt_of_cell? w _ hw341_0)).trans hw341_0), ((HB.out.cell (World.block_lt_of_cell? w _ hw343_0)).trans hw343_0), ((HB.out.cell (World.block_lt_of_cell? w _ hw345_0)).trans hw345_0), ((HB.out.cell (World.block_lt_of_cell? w _ hw347_0)).trans hw347_0), ((HB.out.cell (World.block_lt_of_cell? w _ hw349_0)).trans hw349_0), ((HB.out.cell (World.block_lt_of_cell? w _ hw350_0)).trans hw350_0)⟩ (fun hHeld => ?_)
                    clear hK K
                    refine norm_ (a' := ?_) ?_ ?_
                    rotate_left
                    ·
                     show Act.put _ (some 22) _ = _
                     simp only [Act.put, List.setIfInBounds_toArray, List.set_cons_zero, List.set_cons_succ, i64_w, i32_w]
                     rfl
                    exact norm_ (by first | (simp only [putAll, Act.put, List.setIfInBounds_toArray, List.set_cons_zero, List.set_cons_succ]; done) | (simp only [putAll, Act.put, List.setIfInBounds_toArray, List.set_cons_zero, List.set_cons_succ]; rfl)) (hJ11_35 (gb351) _ ⟨hHeld, (by (with_reducible repeat (first | refine blk_drewN ?_ _ | refine blk_drew ?_ | refine blk_alloc ?_ _)); exact BK338.out), (by (with_reducible repeat (first | refine blk_drewN ?_ _ | refine blk_drew ?_ | refine blk_alloc ?_ _)); exact BK351.out), GW351.out, GE351.out, NB338_351.out, NB351_338.out, (by repeat (first | (with_reducible first | exact HB.out | apply below_alloc | apply pw_below_drewN | apply below_drew1 | refine below_set ?_ GE338.out | refine below_set ?_ GE351.out) | exact HB.out))⟩)
                  ·
                   skip
                   rintro _ w18 ⟨hS_, h0_, h1_⟩
                   have n0_ : Aside0 (w18.heap[gb338]? = some (.cells #[.int .i64 0, .int .i64 0, .int .i64 0, .int .i64 0, .int .i64 0, .int .i64 0, .int .u64 0, .int .i64 0] 46 (0, 0))) := ⟨h0_⟩
                   have n1_ : Aside0 (Below w.heap.size w w18) := ⟨h1_⟩
                   clear BK338
                   clear HB
                   clear h0_ h1_
                   have BK338 := n0_
                   have HB := n1_
                   clear n0_ n1_
                   have hHeld : w18.cell? ad339 = some (.int .u8 (rd l0 0)) ∧ w18.cell? ⟨ad339.block, ad339.off + 1, none⟩ = some (.int .u8 (rd l0 1)) ∧ w18.cell? ⟨ad339.block, ad339.off + 2, none⟩ = some (.int .u8 (rd l0 2)) ∧ w18.cell? ⟨ad339.block, ad339.off + 3, none⟩ = some (.int .u8 (rd l0 3)) ∧ w18.cell? ⟨ad339.block, ad339.off + 4, none⟩ = some (.int .u8 (rd l0 4)) ∧ w18.cell? ⟨ad339.block, ad339.off + 5, none⟩ = some (.int .u8 (rd l0 5)) ∧ w18.cell? ⟨ad339.block, ad339.off + 6, none⟩ = some (.int .u8 (rd l0 6)) ∧ w18.cell? ⟨ad339.block, ad339.off + 7, none⟩ = some (.int .u8 (rd l0 7)) := hS_
                   refine norm_ (a' := ?_) ?_ ?_
                   rotate_left
                   ·
                    simp only [putAll, Act.put, List.setIfInBounds_toArray, List.set_cons_zero, List.set_cons_succ]
                    rfl
                   refine two_ (i := 15) (j := 35) (Ni := some 26) (Nj := some 4) #[true, true, true, true, true, true, true, true, true, true, true, true, true, true, true, true, true, true, true, false, true, true, true, false, true, true, true, true, true, true, true, true, true, true, false, false, false] #[true, true, true, true, true, true, true, true, true, true, true, true, true, true, true, false, true, true, true, false, true, true, true, false, true, true, true, true, true, true, true, true, true, true, false, true, false] rfl rfl rfl rfl (two_of HT_.out (by kernel_rfl)) (by decide) (by decide) (fun K hK => ?_) (fun K hK => ?_)
                   ·
                    skip
                    refine goes_ Try.func36 (by kernel_rfl) rfl #[.int .u8 (rd l0 3)] (by rfl) rfl rfl (by (try simp only [List.map_toArray, List.map_cons, List.map_nil]); first | done | rfl | (simp only [List.length_drop, List.length_take]; rfl)) ?_
                    with_reducible refine (encode_back.calls (rd l0 3) t344 _ A8.out).mono ?_
                    rintro e w' ⟨rfl, ⟨nd, rfl⟩⟩
                    refine ⟨_, rfl, ?_⟩
                    refine hK.out _ _ ⟨((HB.out.cell (World.block_lt_of_cell? w _ hw339_0)).trans hw339_0), ((HB.out.cell (World.block_lt_of_cell? w _ hw340_0)).trans hw340_0), ((HB.out.cell (World.block_lt_of_cell? w _ hw341_0)).trans hw341_0), ((HB.out.cell (World.block_lt_of_cell? w _ hw343_0)).trans hw343_0), ((HB.out.cell (World.block_lt_of_cell? w _ hw345_0)).trans hw345_0), ((HB.out.cell (World.block_lt_of_cell? w _ hw347_0)).trans hw347_0), ((HB.out.cell (World.block_lt_of_cell? w _ hw349_0)).trans hw349_0), ((HB.out.cell (World.block_lt_of_cell? w _ hw350_0)).trans hw350_0)⟩ (fun hHeld => ?_)
                    clear hK K
                    refine norm_ (a' := ?_) ?_ ?_
                    rotate_left
                    ·
                     show Act.put _ (some 26) _ = _
                     simp only [Act.put, List.setIfInBounds_toArray, List.set_cons_zero, List.set_cons_succ, i64_w, i32_w]
                     rfl
                    exact norm_ (by first | (simp only [putAll, Act.put, List.setIfInBounds_toArray, List.set_cons_zero, List.set_cons_succ]; done) | (simp only [putAll, Act.put, List.setIfInBounds_toArray, List.set_cons_zero, List.set_cons_succ]; rfl)) (hJ11_15 () _ ⟨hHeld, (by (with_reducible repeat (first | refine blk_drewN ?_ _ | refine blk_drew ?_ | refine blk_alloc ?_ _)); exact BK338.out), (by repeat (first | (with_reducible first | exact HB.out | apply below_alloc | apply pw_below_drewN | apply below_drew1 | refine below_set ?_ GE338.out) | exact HB.out))⟩)
                   ·
                    skip
                    refine box_step ?hg (N := 4) ?hd (cs := #[.int .i64 0, .int .i64 0, .int .i64 0, .int .i64 0, .int .i64 0, .int .i64 0, .int .u64 0, .int .i64 0]) (t := 46) ?hr ?_; (case hd => rfl); (case hg => rfl); (case hr => first | (go_simp; done) | (go_simp; rfl))
                    intro gb351 hg w19 hbox hb
                    have n0_ := Aside0.mk (blk_below (g := gb338) (o := .cells #[.int .i64 0, .int .i64 0, .int .i64 0, .int .i64 0, .int .i64 0, .int .i64 0, .int .u64 0, .int .i64 0] 46 (0, 0)) (by (with_reducible repeat (first | refine blk_drewN ?_ _ | refine blk_drew ?_ | refine blk_alloc ?_ _)); exact BK338.out) hb)
                    have n1_ := Aside0.mk (below_step (by repeat (first | (with_reducible first | exact HB.out | apply below_alloc | apply pw_below_drewN | apply below_drew1 | refine below_set ?_ GE338.out) | exact HB.out)) hb)
                    have n2_ := Aside0.mk (hbox)
                    have n3_ := Aside0.mk ((by rw [hg]; exact (below_size (by repeat (first | (with_reducible first | exact HB.out | apply below_alloc | apply pw_below_drewN | apply below_drew1 | refine below_set ?_ GE338.out) | exact HB.out))) : w.heap.size ≤ gb351))
                    have n4_ := Aside0.mk ((by rw [hg]; exact (below_size (by repeat (first | (with_reducible first | exact HB.out | apply below_alloc | apply pw_below_drewN | apply below_drew1 | refine below_set ?_ GE338.out) | exact HB.out))) : w.heap.size ≤ gb351))
                    have n5_ := Aside0.mk ((by rw [hg]; exact Nat.ne_of_lt (blk_lt (g := gb338) (o := .cells #[.int .i64 0, .int .i64 0, .int .i64 0, .int .i64 0, .int .i64 0, .int .i64 0, .int .u64 0, .int .i64 0] 46 (0, 0)) (by (with_reducible repeat (first | refine blk_drewN ?_ _ | refine blk_drew ?_ | refine blk_alloc ?_ _)); exact BK338.out)) : gb338 ≠ gb351))
                    have n6_ := Aside0.mk ((by rw [hg]; exact Nat.ne_of_gt (blk_lt (g := gb338) (o := .cells #[.int .i64 0, .int .i64 0, .int .i64 0, .int .i64 0, .int .i64 0, .int .i64 0, .int .u64 0, .int .i64 0] 46 (0, 0)) (by (with_reducible repeat (first | refine blk_drewN ?_ _ | refine blk_drew ?_ | refine blk_alloc ?_ _)); exact BK338.out)) : gb351 ≠ gb338))
                    clear BK338
                    clear HB
                    have BK338 := n0_
                    have HB := n1_
                    have BK351 := n2_
                    have GW351 := n3_
                    have GE351 := n4_
                    have NB338_351 := n5_
                    have NB351_338 := n6_
                    clear n0_ n1_ n2_ n3_ n4_ n5_ n6_
                    clear hb hbox hg
                    refine hK.out _ _ ⟨((HB.out.cell (World.block_lt_of_cell? w _ hw339_0)).trans hw339_0), ((HB.out.cell (World.block_lt_of_cell? w _ hw340_0)).trans hw340_0), ((HB.out.cell (World.block_lt_of_cell? w _ hw341_0)).trans hw341_0), ((HB.out.cell (World.block_lt_of_cell? w _ hw343_0)).trans hw343_0), ((HB.out.cell (World.block_lt_of_cell? w _ hw345_0)).trans hw345_0), ((HB.out.cell (World.block_lt_of_cell? w _ hw347_0)).trans hw347_0), ((HB.out.cell (World.block_lt_of_cell? w _ hw349_0)).trans hw349_0), ((HB.out.cell (World.block_lt_of_cell? w _ hw350_0)).trans hw350_0)⟩ (fun hHeld => ?_)
                    clear hK K
                    refine norm_ (a' := ?_) ?_ ?_
                    rotate_left
                    ·
                     show Act.put _ (some 4) _ = _
                     simp only [Act.put, List.setIfInBounds_toArray, List.set_cons_zero, List.set_cons_succ, i64_w, i32_w]
                     rfl
                    exact norm_ (by first | (simp only [putAll, Act.put, List.setIfInBounds_toArray, List.set_cons_zero, List.set_cons_succ]; done) | (simp only [putAll, Act.put, List.setIfInBounds_toArray, List.set_cons_zero, List.set_cons_succ]; rfl)) (hJ11_35 (gb351) _ ⟨hHeld, (by (with_reducible repeat (first | refine blk_drewN ?_ _ | refine blk_drew ?_ | refine blk_alloc ?_ _)); exact BK338.out), (by (with_reducible repeat (first | refine blk_drewN ?_ _ | refine blk_drew ?_ | refine blk_alloc ?_ _)); exact BK351.out), GW351.out, GE351.out, NB338_351.out, NB351_338.out, (by repeat (first | (with_reducible first | exact HB.out | apply below_alloc | apply pw_below_drewN | apply below_drew1 | refine below_set ?_ GE338.out | refine below_set ?_ GE351.out) | exact HB.out))⟩)
                 ·
                  skip
                  rintro gb351 w19 ⟨hS_, h0_, h1_, h2_, h3_, h4_, h5_, h6_⟩
                  have n0_ : Aside0 (w19.heap[gb338]? = some (.cells #[.int .i64 0, .int .i64 0, .int .i64 0, .int .i64 0, .int .i64 0, .int .i64 0, .int .u64 0, .int .i64 0] 46 (0, 0))) := ⟨h0_⟩
                  have n1_ : Aside0 (w19.heap[gb351]? = some (.cells #[.int .i64 0, .int .i64 0, .int .i64 0, .int .i64 0, .int .i64 0, .int .i64 0, .int .u64 0, .int .i64 0] 46 (0, 0))) := ⟨h1_⟩
                  have n2_ : Aside0 (w.heap.size ≤ gb351) := ⟨h2_⟩
                  have n3_ : Aside0 (w.heap.size ≤ gb351) := ⟨h3_⟩
                  have n4_ : Aside0 (gb338 ≠ gb351) := ⟨h4_⟩
                  have n5_ : Aside0 (gb351 ≠ gb338) := ⟨h5_⟩
                  have n6_ : Aside0 (Below w.heap.size w w19) := ⟨h6_⟩
                  clear BK338
                  clear HB
                  clear h0_ h1_ h2_ h3_ h4_ h5_ h6_
                  have BK338 := n0_
                  have BK351 := n1_
                  have GW351 := n2_
                  have GE351 := n3_
                  have NB338_351 := n4_
                  have NB351_338 := n5_
                  have HB := n6_
                  clear n0_ n1_ n2_ n3_ n4_ n5_ n6_
                  have hHeld : w19.cell? ad339 = some (.int .u8 (rd l0 0)) ∧ w19.cell? ⟨ad339.block, ad339.off + 1, none⟩ = some (.int .u8 (rd l0 1)) ∧ w19.cell? ⟨ad339.block, ad339.off + 2, none⟩ = some (.int .u8 (rd l0 2)) ∧ w19.cell? ⟨ad339.block, ad339.off + 3, none⟩ = some (.int .u8 (rd l0 3)) ∧ w19.cell? ⟨ad339.block, ad339.off + 4, none⟩ = some (.int .u8 (rd l0 4)) ∧ w19.cell? ⟨ad339.block, ad339.off + 5, none⟩ = some (.int .u8 (rd l0 5)) ∧ w19.cell? ⟨ad339.block, ad339.off + 6, none⟩ = some (.int .u8 (rd l0 6)) ∧ w19.cell? ⟨ad339.block, ad339.off + 7, none⟩ = some (.int .u8 (rd l0 7)) := hS_
                  refine norm_ (a' := ?_) ?_ ?_
                  rotate_left
                  ·
                   simp only [putAll, Act.put, List.setIfInBounds_toArray, List.set_cons_zero, List.set_cons_succ]
                   rfl
                  refine one_ (i := 15) (N := some 26) #[true, true, true, true, true, true, true, true, true, true, true, true, true, true, true, true, true, true, true, false, true, true, true, false, true, true, true, true, true, true, true, true, true, true, false, true, false] rfl rfl (one_of HT_.out (by kernel_rfl)) (by decide) (fun K hK => ?_)
                  refine goes_ Try.func36 (by kernel_rfl) rfl #[.int .u8 (rd l0 3)] (by rfl) rfl rfl (by (try simp only [List.map_toArray, List.map_cons, List.map_nil]); first | done | rfl | (simp only [List.length_drop, List.length_take]; rfl)) ?_
                  with_reducible refine (encode_back.calls (rd l0 3) t344 _ A8.out).mono ?_
                  rintro e w' ⟨rfl, ⟨nd, rfl⟩⟩
                  refine ⟨_, rfl, ?_⟩
                  refine hK.out _ _ ⟨((HB.out.cell (World.block_lt_of_cell? w _ hw339_0)).trans hw339_0), ((HB.out.cell (World.block_lt_of_cell? w _ hw340_0)).trans hw340_0), ((HB.out.cell (World.block_lt_of_cell? w _ hw341_0)).trans hw341_0), ((HB.out.cell (World.block_lt_of_cell? w _ hw343_0)).trans hw343_0), ((HB.out.cell (World.block_lt_of_cell? w _ hw345_0)).trans hw345_0), ((HB.out.cell (World.block_lt_of_cell? w _ hw347_0)).trans hw347_0), ((HB.out.cell (World.block_lt_of_cell? w _ hw349_0)).trans hw349_0), ((HB.out.cell (World.block_lt_of_cell? w _ hw350_0)).trans hw350_0)⟩ (fun hHeld => ?_)
                  clear hK K
                  refine norm_ (a' := ?_) ?_ ?_
                  rotate_left
                  ·
                   show Act.put _ (some 26) _ = _
                   simp only [Act.put, List.setIfInBounds_toArray, List.set_cons_zero, List.set_cons_succ, i64_w, i32_w]
                   rfl
                  exact norm_ (by first | (simp only [putAll, Act.put, List.setIfInBounds_toArray, List.set_cons_zero, List.set_cons_succ]; done) | (simp only [putAll, Act.put, List.setIfInBounds_toArray, List.set_cons_zero, List.set_cons_succ]; rfl)) (hJ11_15_35 (gb351) _ ⟨hHeld, (by (with_reducible repeat (first | refine blk_drewN ?_ _ | refine blk_drew ?_ | refine blk_alloc ?_ _)); exact BK338.out), (by (with_reducible repeat (first | refine blk_drewN ?_ _ | refine blk_drew ?_ | refine blk_alloc ?_ _)); exact BK351.out), GW351.out, GE351.out, NB338_351.out, NB351_338.out, (by repeat (first | (with_reducible first | exact HB.out | apply below_alloc | apply pw_below_drewN | apply below_drew1 | refine below_set ?_ GE338.out | refine below_set ?_ GE351.out) | exact HB.out))⟩)
                ·
                 skip
                 rintro _ w18 ⟨hS_, h0_, h1_⟩
                 have n0_ : Aside0 (w18.heap[gb338]? = some (.cells #[.int .i64 0, .int .i64 0, .int .i64 0, .int .i64 0, .int .i64 0, .int .i64 0, .int .u64 0, .int .i64 0] 46 (0, 0))) := ⟨h0_⟩
                 have n1_ : Aside0 (Below w.heap.size w w18) := ⟨h1_⟩
                 clear BK338
                 clear HB
                 clear h0_ h1_
                 have BK338 := n0_
                 have HB := n1_
                 clear n0_ n1_
                 have hHeld : w18.cell? ad339 = some (.int .u8 (rd l0 0)) ∧ w18.cell? ⟨ad339.block, ad339.off + 1, none⟩ = some (.int .u8 (rd l0 1)) ∧ w18.cell? ⟨ad339.block, ad339.off + 2, none⟩ = some (.int .u8 (rd l0 2)) ∧ w18.cell? ⟨ad339.block, ad339.off + 3, none⟩ = some (.int .u8 (rd l0 3)) ∧ w18.cell? ⟨ad339.block, ad339.off + 4, none⟩ = some (.int .u8 (rd l0 4)) ∧ w18.cell? ⟨ad339.block, ad339.off + 5, none⟩ = some (.int .u8 (rd l0 5)) ∧ w18.cell? ⟨ad339.block, ad339.off + 6, none⟩ = some (.int .u8 (rd l0 6)) ∧ w18.cell? ⟨ad339.block, ad339.off + 7, none⟩ = some (.int .u8 (rd l0 7)) := hS_
                 refine norm_ (a' := ?_) ?_ ?_
                 rotate_left
                 ·
                  simp only [putAll, Act.put, List.setIfInBounds_toArray, List.set_cons_zero, List.set_cons_succ]
                  rfl
                 refine two_ (i := 19) (j := 35) (Ni := some 30) (Nj := some 4) #[true, true, true, true, true, true, true, true, true, true, true, true, true, true, true, true, true, true, true, true, true, true, true, false, true, true, true, true, true, true, true, true, true, true, false, false, false] #[true, true, true, true, true, true, true, true, true, true, true, true, true, true, true, true, true, true, true, false, true, true, true, false, true, true, true, true, true, true, true, true, true, true, false, true, false] rfl rfl rfl rfl (two_of HT_.out (by kernel_rfl)) (by decide) (by decide) (fun K hK => ?_) (fun K hK => ?_)
                 ·
                  skip
                  refine goes_ Try.func36 (by kernel_rfl) rfl #[.int .u8 (rd l0 4)] (by rfl) rfl rfl (by (try simp only [List.map_toArray, List.map_cons, List.map_nil]); first | done | rfl | (simp only [List.length_drop, List.length_take]; rfl)) ?_
                  with_reducible refine (encode_back.calls (rd l0 4) t346 _ A10.out).mono ?_
                  rintro e w' ⟨rfl, ⟨nd, rfl⟩⟩
                  refine ⟨_, rfl, ?_⟩
                  refine hK.out _ _ ⟨((HB.out.cell (World.block_lt_of_cell? w _ hw339_0)).trans hw339_0), ((HB.out.cell (World.block_lt_of_cell? w _ hw340_0)).trans hw340_0), ((HB.out.cell (World.block_lt_of_cell? w _ hw341_0)).trans hw341_0), ((HB.out.cell (World.block_lt_of_cell? w _ hw343_0)).trans hw343_0), ((HB.out.cell (World.block_lt_of_cell? w _ hw345_0)).trans hw345_0), ((HB.out.cell (World.block_lt_of_cell? w _ hw347_0)).trans hw347_0), ((HB.out.cell (World.block_lt_of_cell? w _ hw349_0)).trans hw349_0), ((HB.out.cell (World.block_lt_of_cell? w _ hw350_0)).trans hw350_0)⟩ (fun hHeld => ?_)
                  clear hK K
                  refine norm_ (a' := ?_) ?_ ?_
                  rotate_left
                  ·
                   show Act.put _ (some 30) _ = _
                   simp only [Act.put, List.setIfInBounds_toArray, List.set_cons_zero, List.set_cons_succ, i64_w, i32_w]
                   rfl
                  exact norm_ (by first | (simp only [putAll, Act.put, List.setIfInBounds_toArray, List.set_cons_zero, List.set_cons_succ]; done) | (simp only [putAll, Act.put, List.setIfInBounds_toArray, List.set_cons_zero, List.set_cons_succ]; rfl)) (hJ11_15_19 () _ ⟨hHeld, (by (with_reducible repeat (first | refine blk_drewN ?_ _ | refine blk_drew ?_ | refine blk_alloc ?_ _)); exact BK338.out), (by repeat (first | (with_reducible first | exact HB.out | apply below_alloc | apply pw_below_drewN | apply below_drew1 | refine below_set ?_ GE338.out) | exact HB.out))⟩)
                 ·
                  skip
                  refine box_step ?hg (N := 4) ?hd (cs := #[.int .i64 0, .int .i64 0, .int .i64 0, .int .i64 0, .int .i64 0, .int .i64 0, .int .u64 0, .int .i64 0]) (t := 46) ?hr ?_; (case hd => rfl); (case hg => rfl); (case hr => first | (go_simp; done) | (go_simp; rfl))
                  intro gb351 hg w19 hbox hb
                  have n0_ := Aside0.mk (blk_below (g := gb338) (o := .cells #[.int .i64 0, .int .i64 0, .int .i64 0, .int .i64 0, .int .i64 0, .int .i64 0, .int .u64 0, .int .i64 0] 46 (0, 0)) (by (with_reducible repeat (first | refine blk_drewN ?_ _ | refine blk_drew ?_ | refine blk_alloc ?_ _)); exact BK338.out) hb)
                  have n1_ := Aside0.mk (below_step (by repeat (first | (with_reducible first | exact HB.out | apply below_alloc | apply pw_below_drewN | apply below_drew1 | refine below_set ?_ GE338.out) | exact HB.out)) hb)
                  have n2_ := Aside0.mk (hbox)
                  have n3_ := Aside0.mk ((by rw [hg]; exact (below_size (by repeat (first | (with_reducible first | exact HB.out | apply below_alloc | apply pw_below_drewN | apply below_drew1 | refine below_set ?_ GE338.out) | exact HB.out))) : w.heap.size ≤ gb351))
                  have n4_ := Aside0.mk ((by rw [hg]; exact (below_size (by repeat (first | (with_reducible first | exact HB.out | apply below_alloc | apply pw_below_drewN | apply below_drew1 | refine below_set ?_ GE338.out) | exact HB.out))) : w.heap.size ≤ gb351))
                  have n5_ := Aside0.mk ((by rw [hg]; exact Nat.ne_of_lt (blk_lt (g := gb338) (o := .cells #[.int .i64 0, .int .i64 0, .int .i64 0, .int .i64 0, .int .i64 0, .int .i64 0, .int .u64 0, .int .i64 0] 46 (0, 0)) (by (with_reducible repeat (first | refine blk_drewN ?_ _ | refine blk_drew ?_ | refine blk_alloc ?_ _)); exact BK338.out)) : gb338 ≠ gb351))
                  have n6_ := Aside0.mk ((by rw [hg]; exact Nat.ne_of_gt (blk_lt (g := gb338) (o := .cells #[.int .i64 0, .int .i64 0, .int .i64 0, .int .i64 0, .int .i64 0, .int .i64 0, .int .u64 0, .int .i64 0] 46 (0, 0)) (by (with_reducible repeat (first | refine blk_drewN ?_ _ | refine blk_drew ?_ | refine blk_alloc ?_ _)); exact BK338.out)) : gb351 ≠ gb338))
                  clear BK338
                  clear HB
                  have BK338 := n0_
                  have HB := n1_
                  have BK351 := n2_
                  have GW351 := n3_
                  have GE351 := n4_
                  have NB338_351 := n5_
                  have NB351_338 := n6_
                  clear n0_ n1_ n2_ n3_ n4_ n5_ n6_
                  clear hb hbox hg
                  refine hK.out _ _ ⟨((HB.out.cell (World.block_lt_of_cell? w _ hw339_0)).trans hw339_0), ((HB.out.cell (World.block_lt_of_cell? w _ hw340_0)).trans hw340_0), ((HB.out.cell (World.block_lt_of_cell? w _ hw341_0)).trans hw341_0), ((HB.out.cell (World.block_lt_of_cell? w _ hw343_0)).trans hw343_0), ((HB.out.cell (World.block_lt_of_cell? w _ hw345_0)).trans hw345_0), ((HB.out.cell (World.block_lt_of_cell? w _ hw347_0)).trans hw347_0), ((HB.out.cell (World.block_lt_of_cell? w _ hw349_0)).trans hw349_0), ((HB.out.cell (World.block_lt_of_cell? w _ hw350_0)).trans hw350_0)⟩ (fun hHeld => ?_)
                  clear hK K
                  refine norm_ (a' := ?_) ?_ ?_
                  rotate_left
                  ·
                   show Act.put _ (some 4) _ = _
                   simp only [Act.put, List.setIfInBounds_toArray, List.set_cons_zero, List.set_cons_succ, i64_w, i32_w]
                   rfl
                  exact norm_ (by first | (simp only [putAll, Act.put, List.setIfInBounds_toArray, List.set_cons_zero, List.set_cons_succ]; done) | (simp only [putAll, Act.put, List.setIfInBounds_toArray, List.set_cons_zero, List.set_cons_succ]; rfl)) (hJ11_15_35 (gb351) _ ⟨hHeld, (by (with_reducible repeat (first | refine blk_drewN ?_ _ | refine blk_drew ?_ | refine blk_alloc ?_ _)); exact BK338.out), (by (with_reducible repeat (first | refine blk_drewN ?_ _ | refine blk_drew ?_ | refine blk_alloc ?_ _)); exact BK351.out), GW351.out, GE351.out, NB338_351.out, NB351_338.out, (by repeat (first | (with_reducible first | exact HB.out | apply below_alloc | apply pw_below_drewN | apply below_drew1 | refine below_set ?_ GE338.out | refine below_set ?_ GE351.out) | exact HB.out))⟩)
               ·
                skip
                rintro gb351 w19 ⟨hS_, h0_, h1_, h2_, h3_, h4_, h5_, h6_⟩
                have n0_ : Aside0 (w19.heap[gb338]? = some (.cells #[.int .i64 0, .int .i64 0, .int .i64 0, .int .i64 0, .int .i64 0, .int .i64 0, .int .u64 0, .int .i64 0] 46 (0, 0))) := ⟨h0_⟩
                have n1_ : Aside0 (w19.heap[gb351]? = some (.cells #[.int .i64 0, .int .i64 0, .int .i64 0, .int .i64 0, .int .i64 0, .int .i64 0, .int .u64 0, .int .i64 0] 46 (0, 0))) := ⟨h1_⟩
                have n2_ : Aside0 (w.heap.size ≤ gb351) := ⟨h2_⟩
                have n3_ : Aside0 (w.heap.size ≤ gb351) := ⟨h3_⟩
                have n4_ : Aside0 (gb338 ≠ gb351) := ⟨h4_⟩
                have n5_ : Aside0 (gb351 ≠ gb338) := ⟨h5_⟩
                have n6_ : Aside0 (Below w.heap.size w w19) := ⟨h6_⟩
                clear BK338
                clear HB
                clear h0_ h1_ h2_ h3_ h4_ h5_ h6_
                have BK338 := n0_
                have BK351 := n1_
                have GW351 := n2_
                have GE351 := n3_
                have NB338_351 := n4_
                have NB351_338 := n5_
                have HB := n6_
                clear n0_ n1_ n2_ n3_ n4_ n5_ n6_
                have hHeld : w19.cell? ad339 = some (.int .u8 (rd l0 0)) ∧ w19.cell? ⟨ad339.block, ad339.off + 1, none⟩ = some (.int .u8 (rd l0 1)) ∧ w19.cell? ⟨ad339.block, ad339.off + 2, none⟩ = some (.int .u8 (rd l0 2)) ∧ w19.cell? ⟨ad339.block, ad339.off + 3, none⟩ = some (.int .u8 (rd l0 3)) ∧ w19.cell? ⟨ad339.block, ad339.off + 4, none⟩ = some (.int .u8 (rd l0 4)) ∧ w19.cell? ⟨ad339.block, ad339.off + 5, none⟩ = some (.int .u8 (rd l0 5)) ∧ w19.cell? ⟨ad339.block, ad339.off + 6, none⟩ = some (.int .u8 (rd l0 6)) ∧ w19.cell? ⟨ad339.block, ad339.off + 7, none⟩ = some (.int .u8 (rd l0 7)) := hS_
                refine norm_ (a' := ?_) ?_ ?_
                rotate_left
                ·
                 simp only [putAll, Act.put, List.setIfInBounds_toArray, List.set_cons_zero, List.set_cons_succ]
                 rfl
                refine one_ (i := 19) (N := some 30) #[true, true, true, true, true, true, true, true, true, true, true, true, true, true, true, true, true, true, true, true, true, true, true, false, true, true, true, true, true, true, true, true, true, true, false, true, false] rfl rfl (one_of HT_.out (by kernel_rfl)) (by decide) (fun K hK => ?_)
                refine goes_ Try.func36 (by kernel_rfl) rfl #[.int .u8 (rd l0 4)] (by rfl) rfl rfl (by (try simp only [List.map_toArray, List.map_cons, List.map_nil]); first | done | rfl | (simp only [List.length_drop, List.length_take]; rfl)) ?_
                with_reducible refine (encode_back.calls (rd l0 4) t346 _ A10.out).mono ?_
                rintro e w' ⟨rfl, ⟨nd, rfl⟩⟩
                refine ⟨_, rfl, ?_⟩
                refine hK.out _ _ ⟨((HB.out.cell (World.block_lt_of_cell? w _ hw339_0)).trans hw339_0), ((HB.out.cell (World.block_lt_of_cell? w _ hw340_0)).trans hw340_0), ((HB.out.cell (World.block_lt_of_cell? w _ hw341_0)).trans hw341_0), ((HB.out.cell (World.block_lt_of_cell? w _ hw343_0)).trans hw343_0), ((HB.out.cell (World.block_lt_of_cell? w _ hw345_0)).trans hw345_0), ((HB.out.cell (World.block_lt_of_cell? w _ hw347_0)).trans hw347_0), ((HB.out.cell (World.block_lt_of_cell? w _ hw349_0)).trans hw349_0), ((HB.out.cell (World.block_lt_of_cell? w _ hw350_0)).trans hw350_0)⟩ (fun hHeld => ?_)
                clear hK K
                refine norm_ (a' := ?_) ?_ ?_
                rotate_left
                ·
                 show Act.put _ (some 30) _ = _
                 simp only [Act.put, List.setIfInBounds_toArray, List.set_cons_zero, List.set_cons_succ, i64_w, i32_w]
                 rfl
                exact norm_ (by first | (simp only [putAll, Act.put, List.setIfInBounds_toArray, List.set_cons_zero, List.set_cons_succ]; done) | (simp only [putAll, Act.put, List.setIfInBounds_toArray, List.set_cons_zero, List.set_cons_succ]; rfl)) (hJ11_15_19_35 (gb351) _ ⟨hHeld, (by (with_reducible repeat (first | refine blk_drewN ?_ _ | refine blk_drew ?_ | refine blk_alloc ?_ _)); exact BK338.out), (by (with_reducible repeat (first | refine blk_drewN ?_ _ | refine blk_drew ?_ | refine blk_alloc ?_ _)); exact BK351.out), GW351.out, GE351.out, NB338_351.out, NB351_338.out, (by repeat (first | (with_reducible first | exact HB.out | apply below_alloc | apply pw_below_drewN | apply below_drew1 | refine below_set ?_ GE338.out | refine below_set ?_ GE351.out) | exact HB.out))⟩)
              ·
               skip
               rintro _ w18 ⟨hS_, h0_, h1_⟩
               have n0_ : Aside0 (w18.heap[gb338]? = some (.cells #[.int .i64 0, .int .i64 0, .int .i64 0, .int .i64 0, .int .i64 0, .int .i64 0, .int .u64 0, .int .i64 0] 46 (0, 0))) := ⟨h0_⟩
               have n1_ : Aside0 (Below w.heap.size w w18) := ⟨h1_⟩
               clear BK338
               clear HB
               clear h0_ h1_
               have BK338 := n0_
               have HB := n1_
               clear n0_ n1_
               have hHeld : w18.cell? ad339 = some (.int .u8 (rd l0 0)) ∧ w18.cell? ⟨ad339.block, ad339.off + 1, none⟩ = some (.int .u8 (rd l0 1)) ∧ w18.cell? ⟨ad339.block, ad339.off + 2, none⟩ = some (.int .u8 (rd l0 2)) ∧ w18.cell? ⟨ad339.block, ad339.off + 3, none⟩ = some (.int .u8 (rd l0 3)) ∧ w18.cell? ⟨ad339.block, ad339.off + 4, none⟩ = some (.int .u8 (rd l0 4)) ∧ w18.cell? ⟨ad339.block, ad339.off + 5, none⟩ = some (.int .u8 (rd l0 5)) ∧ w18.cell? ⟨ad339.block, ad339.off + 6, none⟩ = some (.int .u8 (rd l0 6)) ∧ w18.cell? ⟨ad339.block, ad339.off + 7, none⟩ = some (.int .u8 (rd l0 7)) := hS_
               refine norm_ (a' := ?_) ?_ ?_
               rotate_left
               ·
                simp only [putAll, Act.put, List.setIfInBounds_toArray, List.set_cons_zero, List.set_cons_succ]
                rfl
               refine two_ (i := 23) (j := 35) (Ni := some 34) (Nj := some 4) #[true, true, true, true, true, true, true, true, true, true, true, true, true, true, true, true, true, true, true, true, true, true, true, true, true, true, true, true, true, true, true, true, true, true, false, false, false] #[true, true, true, true, true, true, true, true, true, true, true, true, true, true, true, true, true, true, true, true, true, true, true, false, true, true, true, true, true, true, true, true, true, true, false, true, false] rfl rfl rfl rfl (two_of HT_.out (by kernel_rfl)) (by decide) (by decide) (fun K hK => ?_) (fun K hK => ?_)
               ·
                skip
                refine goes_ Try.func36 (by kernel_rfl) rfl #[.int .u8 (rd l0 5)] (by rfl) rfl rfl (by (try simp only [List.map_toArray, List.map_cons, List.map_nil]); first | done | rfl | (simp only [List.length_drop, List.length_take]; rfl)) ?_
                with_reducible refine (encode_back.calls (rd l0 5) t348 _ A12.out).mono ?_
                rintro e w' ⟨rfl, ⟨nd, rfl⟩⟩
                refine ⟨_, rfl, ?_⟩
                refine hK.out _ _ ⟨((HB.out.cell (World.block_lt_of_cell? w _ hw339_0)).trans hw339_0), ((HB.out.cell (World.block_lt_of_cell? w _ hw340_0)).trans hw340_0), ((HB.out.cell (World.block_lt_of_cell? w _ hw341_0)).trans hw341_0), ((HB.out.cell (World.block_lt_of_cell? w _ hw343_0)).trans hw343_0), ((HB.out.cell (World.block_lt_of_cell? w _ hw345_0)).trans hw345_0), ((HB.out.cell (World.block_lt_of_cell? w _ hw347_0)).trans hw347_0), ((HB.out.cell (World.block_lt_of_cell? w _ hw349_0)).trans hw349_0), ((HB.out.cell (World.block_lt_of_cell? w _ hw350_0)).trans hw350_0)⟩ (fun hHeld => ?_)
                clear hK K
                refine norm_ (a' := ?_) ?_ ?_
                rotate_left
                ·
                 show Act.put _ (some 34) _ = _
                 simp only [Act.put, List.setIfInBounds_toArray, List.set_cons_zero, List.set_cons_succ, i64_w, i32_w]
                 rfl
                refine pure_ (i := 34) (N := some 45) (v := ?_) (a' := ?_) #[true, true, true, true, true, true, true, true, true, true, true, true, true, true, true, true, true, true, true, true, true, true, true, true, true, true, true, true, true, true, true, true, true, true, true, false, false] rfl rfl (any_of HT_.out (by kernel_rfl)) (fun _ _ _ h => h) (Or.inl ⟨by rfl, ?_⟩) ?_ ?_
                rotate_left
                ·
                 intro w'
                 go_simp
                 with_reducible rfl
                rotate_left
                ·
                 simp only [Act.put, List.setIfInBounds_toArray, List.set_cons_zero, List.set_cons_succ, i64_w, i32_w]
                 rfl
                exact norm_ (by first | (simp only [putAll, Act.put, List.setIfInBounds_toArray, List.set_cons_zero, List.set_cons_succ]; done) | (simp only [putAll, Act.put, List.setIfInBounds_toArray, List.set_cons_zero, List.set_cons_succ]; rfl)) (hJ11_15_19_23 () _ ⟨hHeld, (by (with_reducible repeat (first | refine blk_drewN ?_ _ | refine blk_drew ?_ | refine blk_alloc ?_ _)); exact BK338.out), (by repeat (first | (with_reducible first | exact HB.out | apply below_alloc | apply pw_below_drewN | apply below_drew1 | refine below_set ?_ GE338.out) | exact HB.out))⟩)
               ·
                skip
                refine box_step ?hg (N := 4) ?hd (cs := #[.int .i64 0, .int .i64 0, .int .i64 0, .int .i64 0, .int .i64 0, .int .i64 0, .int .u64 0, .int .i64 0]) (t := 46) ?hr ?_; (case hd => rfl); (case hg => rfl); (case hr => first | (go_simp; done) | (go_simp; rfl))
                intro gb351 hg w19 hbox hb
                have n0_ := Aside0.mk (blk_below (g := gb338) (o := .cells #[.int .i64 0, .int .i64 0, .int .i64 0, .int .i64 0, .int .i64 0, .int .i64 0, .int .u64 0, .int .i64 0] 46 (0, 0)) (by (with_reducible repeat (first | refine blk_drewN ?_ _ | refine blk_drew ?_ | refine blk_alloc ?_ _)); exact BK338.out) hb)
                have n1_ := Aside0.mk (below_step (by repeat (first | (with_reducible first | exact HB.out | apply below_alloc | apply pw_below_drewN | apply below_drew1 | refine below_set ?_ GE338.out) | exact HB.out)) hb)
                have n2_ := Aside0.mk (hbox)
                have n3_ := Aside0.mk ((by rw [hg]; exact (below_size (by repeat (first | (with_reducible first | exact HB.out | apply below_alloc | apply pw_below_drewN | apply below_drew1 | refine below_set ?_ GE338.out) | exact HB.out))) : w.heap.size ≤ gb351))
                have n4_ := Aside0.mk ((by rw [hg]; exact (below_size (by repeat (first | (with_reducible first | exact HB.out | apply below_alloc | apply pw_below_drewN | apply below_drew1 | refine below_set ?_ GE338.out) | exact HB.out))) : w.heap.size ≤ gb351))
                have n5_ := Aside0.mk ((by rw [hg]; exact Nat.ne_of_lt (blk_lt (g := gb338) (o := .cells #[.int .i64 0, .int .i64 0, .int .i64 0, .int .i64 0, .int .i64 0, .int .i64 0, .int .u64 0, .int .i64 0] 46 (0, 0)) (by (with_reducible repeat (first | refine blk_drewN ?_ _ | refine blk_drew ?_ | refine blk_alloc ?_ _)); exact BK338.out)) : gb338 ≠ gb351))
                have n6_ := Aside0.mk ((by rw [hg]; exact Nat.ne_of_gt (blk_lt (g := gb338) (o := .cells #[.int .i64 0, .int .i64 0, .int .i64 0, .int .i64 0, .int .i64 0, .int .i64 0, .int .u64 0, .int .i64 0] 46 (0, 0)) (by (with_reducible repeat (first | refine blk_drewN ?_ _ | refine blk_drew ?_ | refine blk_alloc ?_ _)); exact BK338.out)) : gb351 ≠ gb338))
                clear BK338
                clear HB
                have BK338 := n0_
                have HB := n1_
                have BK351 := n2_
                have GW351 := n3_
                have GE351 := n4_
                have NB338_351 := n5_
                have NB351_338 := n6_
                clear n0_ n1_ n2_ n3_ n4_ n5_ n6_
                clear hb hbox hg
                refine hK.out _ _ ⟨((HB.out.cell (World.block_lt_of_cell? w _ hw339_0)).trans hw339_0), ((HB.out.cell (World.block_lt_of_cell? w _ hw340_0)).trans hw340_0), ((HB.out.cell (World.block_lt_of_cell? w _ hw341_0)).trans hw341_0), ((HB.out.cell (World.block_lt_of_cell? w _ hw343_0)).trans hw343_0), ((HB.out.cell (World.block_lt_of_cell? w _ hw345_0)).trans hw345_0), ((HB.out.cell (World.block_lt_of_cell? w _ hw347_0)).trans hw347_0), ((HB.out.cell (World.block_lt_of_cell? w _ hw349_0)).trans hw349_0), ((HB.out.cell (World.block_lt_of_cell? w _ hw350_0)).trans hw350_0)⟩ (fun hHeld => ?_)
                clear hK K
                refine norm_ (a' := ?_) ?_ ?_
                rotate_left
                ·
                 show Act.put _ (some 4) _ = _
                 simp only [Act.put, List.setIfInBounds_toArray, List.set_cons_zero, List.set_cons_succ, i64_w, i32_w]
                 rfl
                exact norm_ (by first | (simp only [putAll, Act.put, List.setIfInBounds_toArray, List.set_cons_zero, List.set_cons_succ]; done) | (simp only [putAll, Act.put, List.setIfInBounds_toArray, List.set_cons_zero, List.set_cons_succ]; rfl)) (hJ11_15_19_35 (gb351) _ ⟨hHeld, (by (with_reducible repeat (first | refine blk_drewN ?_ _ | refine blk_drew ?_ | refine blk_alloc ?_ _)); exact BK338.out), (by (with_reducible repeat (first | refine blk_drewN ?_ _ | refine blk_drew ?_ | refine blk_alloc ?_ _)); exact BK351.out), GW351.out, GE351.out, NB338_351.out, NB351_338.out, (by repeat (first | (with_reducible first | exact HB.out | apply below_alloc | apply pw_below_drewN | apply below_drew1 | refine below_set ?_ GE338.out | refine below_set ?_ GE351.out) | exact HB.out))⟩)
             ·
              skip
              rintro gb351 w19 ⟨hS_, h0_, h1_, h2_, h3_, h4_, h5_, h6_⟩
              have n0_ : Aside0 (w19.heap[gb338]? = some (.cells #[.int .i64 0, .int .i64 0, .int .i64 0, .int .i64 0, .int .i64 0, .int .i64 0, .int .u64 0, .int .i64 0] 46 (0, 0))) := ⟨h0_⟩
              have n1_ : Aside0 (w19.heap[gb351]? = some (.cells #[.int .i64 0, .int .i64 0, .int .i64 0, .int .i64 0, .int .i64 0, .int .i64 0, .int .u64 0, .int .i64 0] 46 (0, 0))) := ⟨h1_⟩
              have n2_ : Aside0 (w.heap.size ≤ gb351) := ⟨h2_⟩
              have n3_ : Aside0 (w.heap.size ≤ gb351) := ⟨h3_⟩
              have n4_ : Aside0 (gb338 ≠ gb351) := ⟨h4_⟩
              have n5_ : Aside0 (gb351 ≠ gb338) := ⟨h5_⟩
              have n6_ : Aside0 (Below w.heap.size w w19) := ⟨h6_⟩
              clear BK338
              clear HB
              clear h0_ h1_ h2_ h3_ h4_ h5_ h6_
              have BK338 := n0_
              have BK351 := n1_
              have GW351 := n2_
              have GE351 := n3_
              have NB338_351 := n4_
              have NB351_338 := n5_
              have HB := n6_
              clear n0_ n1_ n2_ n3_ n4_ n5_ n6_
              have hHeld : w19.cell? ad339 = some (.int .u8 (rd l0 0)) ∧ w19.cell? ⟨ad339.block, ad339.off + 1, none⟩ = some (.int .u8 (rd l0 1)) ∧ w19.cell? ⟨ad339.block, ad339.off + 2, none⟩ = some (.int .u8 (rd l0 2)) ∧ w19.cell? ⟨ad339.block, ad339.off + 3, none⟩ = some (.int .u8 (rd l0 3)) ∧ w19.cell? ⟨ad339.block, ad339.off + 4, none⟩ = some (.int .u8 (rd l0 4)) ∧ w19.cell? ⟨ad339.block, ad339.off + 5, none⟩ = some (.int .u8 (rd l0 5)) ∧ w19.cell? ⟨ad339.block, ad339.off + 6, none⟩ = some (.int .u8 (rd l0 6)) ∧ w19.cell? ⟨ad339.block, ad339.off + 7, none⟩ = some (.int .u8 (rd l0 7)) := hS_
              refine norm_ (a' := ?_) ?_ ?_
              rotate_left
              ·
               simp only [putAll, Act.put, List.setIfInBounds_toArray, List.set_cons_zero, List.set_cons_succ]
               rfl
              refine one_ (i := 23) (N := some 34) #[true, true, true, true, true, true, true, true, true, true, true, true, true, true, true, true, true, true, true, true, true, true, true, true, true, true, true, true, true, true, true, true, true, true, false, true, false] rfl rfl (one_of HT_.out (by kernel_rfl)) (by decide) (fun K hK => ?_)
              refine goes_ Try.func36 (by kernel_rfl) rfl #[.int .u8 (rd l0 5)] (by rfl) rfl rfl (by (try simp only [List.map_toArray, List.map_cons, List.map_nil]); first | done | rfl | (simp only [List.length_drop, List.length_take]; rfl)) ?_
              with_reducible refine (encode_back.calls (rd l0 5) t348 _ A12.out).mono ?_
              rintro e w' ⟨rfl, ⟨nd, rfl⟩⟩
              refine ⟨_, rfl, ?_⟩
              refine hK.out _ _ ⟨((HB.out.cell (World.block_lt_of_cell? w _ hw339_0)).trans hw339_0), ((HB.out.cell (World.block_lt_of_cell? w _ hw340_0)).trans hw340_0), ((HB.out.cell (World.block_lt_of_cell? w _ hw341_0)).trans hw341_0), ((HB.out.cell (World.block_lt_of_cell? w _ hw343_0)).trans hw343_0), ((HB.out.cell (World.block_lt_of_cell? w _ hw345_0)).trans hw345_0), ((HB.out.cell (World.block_lt_of_cell? w _ hw347_0)).trans hw347_0), ((HB.out.cell (World.block_lt_of_cell? w _ hw349_0)).trans hw349_0), ((HB.out.cell (World.block_lt_of_cell? w _ hw350_0)).trans hw350_0)⟩ (fun hHeld => ?_)
              clear hK K
              refine norm_ (a' := ?_) ?_ ?_
              rotate_left
              ·
               show Act.put _ (some 34) _ = _
               simp only [Act.put, List.setIfInBounds_toArray, List.set_cons_zero, List.set_cons_succ, i64_w, i32_w]
               rfl
              refine pure_ (i := 34) (N := some 45) (v := ?_) (a' := ?_) #[true, true, true, true, true, true, true, true, true, true, true, true, true, true, true, true, true, true, true, true, true, true, true, true, true, true, true, true, true, true, true, true, true, true, true, true, false] rfl rfl (any_of HT_.out (by kernel_rfl)) (fun _ _ _ h => h) (Or.inl ⟨by rfl, ?_⟩) ?_ ?_
              rotate_left
              ·
               intro w'
               go_simp
               with_reducible rfl
              rotate_left
              ·
               simp only [Act.put, List.setIfInBounds_toArray, List.set_cons_zero, List.set_cons_succ, i64_w, i32_w]
               rfl
              exact norm_ (by first | (simp only [putAll, Act.put, List.setIfInBounds_toArray, List.set_cons_zero, List.set_cons_succ]; done) | (simp only [putAll, Act.put, List.setIfInBounds_toArray, List.set_cons_zero, List.set_cons_succ]; rfl)) (hJ11_15_19_23_35 (gb351) _ ⟨hHeld, (by (with_reducible repeat (first | refine blk_drewN ?_ _ | refine blk_drew ?_ | refine blk_alloc ?_ _)); exact BK338.out), (by (with_reducible repeat (first | refine blk_drewN ?_ _ | refine blk_drew ?_ | refine blk_alloc ?_ _)); exact BK351.out), GW351.out, GE351.out, NB338_351.out, NB351_338.out, (by repeat (first | (with_reducible first | exact HB.out | apply below_alloc | apply pw_below_drewN | apply below_drew1 | refine below_set ?_ GE338.out | refine below_set ?_ GE351.out) | exact HB.out))⟩)
            ·
             skip
             rintro _ w18 ⟨hS_, h0_, h1_⟩
             have n0_ : Aside0 (w18.heap[gb338]? = some (.cells #[.int .i64 0, .int .i64 0, .int .i64 0, .int .i64 0, .int .i64 0, .int .i64 0, .int .u64 0, .int .i64 0] 46 (0, 0))) := ⟨h0_⟩
             have n1_ : Aside0 (Below w.heap.size w w18) := ⟨h1_⟩
             clear BK338
             clear HB
             clear h0_ h1_
             have BK338 := n0_
             have HB := n1_
             clear n0_ n1_
             have hHeld : w18.cell? ad339 = some (.int .u8 (rd l0 0)) ∧ w18.cell? ⟨ad339.block, ad339.off + 1, none⟩ = some (.int .u8 (rd l0 1)) ∧ w18.cell? ⟨ad339.block, ad339.off + 2, none⟩ = some (.int .u8 (rd l0 2)) ∧ w18.cell? ⟨ad339.block, ad339.off + 3, none⟩ = some (.int .u8 (rd l0 3)) ∧ w18.cell? ⟨ad339.block, ad339.off + 4, none⟩ = some (.int .u8 (rd l0 4)) ∧ w18.cell? ⟨ad339.block, ad339.off + 5, none⟩ = some (.int .u8 (rd l0 5)) ∧ w18.cell? ⟨ad339.block, ad339.off + 6, none⟩ = some (.int .u8 (rd l0 6)) ∧ w18.cell? ⟨ad339.block, ad339.off + 7, none⟩ = some (.int .u8 (rd l0 7)) := hS_
             refine norm_ (a' := ?_) ?_ ?_
             rotate_left
             ·
              simp only [putAll, Act.put, List.setIfInBounds_toArray, List.set_cons_zero, List.set_cons_succ]
              rfl
             refine one_ (i := 35) (N := some 4) #[true, true, true, true, true, true, true, true, true, true, true, true, true, true, true, true, true, true, true, true, true, true, true, true, true, true, true, true, true, true, true, true, true, true, true, true, false] rfl rfl (one_of HT_.out (by kernel_rfl)) (by decide) (fun K hK => ?_)
             refine box_step ?hg (N := 4) ?hd (cs := #[.int .i64 0, .int .i64 0, .int .i64 0, .int .i64 0, .int .i64 0, .int .i64 0, .int .u64 0, .int .i64 0]) (t := 46) ?hr ?_; (case hd => rfl); (case hg => rfl); (case hr => first | (go_simp; done) | (go_simp; rfl))
             intro gb351 hg w19 hbox hb
             have n0_ := Aside0.mk (blk_below (g := gb338) (o := .cells #[.int .i64 0, .int .i64 0, .int .i64 0, .int .i64 0, .int .i64 0, .int .i64 0, .int .u64 0, .int .i64 0] 46 (0, 0)) (by (with_reducible repeat (first | refine blk_drewN ?_ _ | refine blk_drew ?_ | refine blk_alloc ?_ _)); exact BK338.out) hb)
             have n1_ := Aside0.mk (below_step (by repeat (first | (with_reducible first | exact HB.out | apply below_alloc | apply pw_below_drewN | apply below_drew1 | refine below_set ?_ GE338.out) | exact HB.out)) hb)
             have n2_ := Aside0.mk (hbox)
             have n3_ := Aside0.mk ((by rw [hg]; exact (below_size (by repeat (first | (with_reducible first | exact HB.out | apply below_alloc | apply pw_below_drewN | apply below_drew1 | refine below_set ?_ GE338.out) | exact HB.out))) : w.heap.size ≤ gb351))
             have n4_ := Aside0.mk ((by rw [hg]; exact (below_size (by repeat (first | (with_reducible first | exact HB.out | apply below_alloc | apply pw_below_drewN | apply below_drew1 | refine below_set ?_ GE338.out) | exact HB.out))) : w.heap.size ≤ gb351))
             have n5_ := Aside0.mk ((by rw [hg]; exact Nat.ne_of_lt (blk_lt (g := gb338) (o := .cells #[.int .i64 0, .int .i64 0, .int .i64 0, .int .i64 0, .int .i64 0, .int .i64 0, .int .u64 0, .int .i64 0] 46 (0, 0)) (by (with_reducible repeat (first | refine blk_drewN ?_ _ | refine blk_drew ?_ | refine blk_alloc ?_ _)); exact BK338.out)) : gb338 ≠ gb351))
             have n6_ := Aside0.mk ((by rw [hg]; exact Nat.ne_of_gt (blk_lt (g := gb338) (o := .cells #[.int .i64 0, .int .i64 0, .int .i64 0, .int .i64 0, .int .i64 0, .int .i64 0, .int .u64 0, .int .i64 0] 46 (0, 0)) (by (with_reducible repeat (first | refine blk_drewN ?_ _ | refine blk_drew ?_ | refine blk_alloc ?_ _)); exact BK338.out)) : gb351 ≠ gb338))
             clear BK338
             clear HB
             have BK338 := n0_
             have HB := n1_
             have BK351 := n2_
             have GW351 := n3_
             have GE351 := n4_
             have NB338_351 := n5_
             have NB351_338 := n6_
             clear n0_ n1_ n2_ n3_ n4_ n5_ n6_
             clear hb hbox hg
             refine hK.out _ _ ⟨((HB.out.cell (World.block_lt_of_cell? w _ hw339_0)).trans hw339_0), ((HB.out.cell (World.block_lt_of_cell? w _ hw340_0)).trans hw340_0), ((HB.out.cell (World.block_lt_of_cell? w _ hw341_0)).trans hw341_0), ((HB.out.cell (World.block_lt_of_cell? w _ hw343_0)).trans hw343_0), ((HB.out.cell (World.block_lt_of_cell? w _ hw345_0)).trans hw345_0), ((HB.out.cell (World.block_lt_of_cell? w _ hw347_0)).trans hw347_0), ((HB.out.cell (World.block_lt_of_cell? w _ hw349_0)).trans hw349_0), ((HB.out.cell (World.block_lt_of_cell? w _ hw350_0)).trans hw350_0)⟩ (fun hHeld => ?_)
             clear hK K
             refine norm_ (a' := ?_) ?_ ?_
             rotate_left
             ·
              show Act.put _ (some 4) _ = _
              simp only [Act.put, List.setIfInBounds_toArray, List.set_cons_zero, List.set_cons_succ, i64_w, i32_w]
              rfl
             exact norm_ (by first | (simp only [putAll, Act.put, List.setIfInBounds_toArray, List.set_cons_zero, List.set_cons_succ]; done) | (simp only [putAll, Act.put, List.setIfInBounds_toArray, List.set_cons_zero, List.set_cons_succ]; rfl)) (hJ11_15_19_23_35 (gb351) _ ⟨hHeld, (by (with_reducible repeat (first | refine blk_drewN ?_ _ | refine blk_drew ?_ | refine blk_alloc ?_ _)); exact BK338.out), (by (with_reducible repeat (first | refine blk_drewN ?_ _ | refine blk_drew ?_ | refine blk_alloc ?_ _)); exact BK351.out), GW351.out, GE351.out, NB338_351.out, NB351_338.out, (by repeat (first | (with_reducible first | exact HB.out | apply below_alloc | apply pw_below_drewN | apply below_drew1 | refine below_set ?_ GE338.out | refine below_set ?_ GE351.out) | exact HB.out))⟩)
           rintro gb351 w19 ⟨hS_, h0_, h1_, h2_, h3_, h4_, h5_, h6_⟩
           have n0_ : Aside0 (w19.heap[gb338]? = some (.cells #[.int .i64 0, .int .i64 0, .int .i64 0, .int .i64 0, .int .i64 0, .int .i64 0, .int .u64 0, .int .i64 0] 46 (0, 0))) := ⟨h0_⟩
           have n1_ : Aside0 (w19.heap[gb351]? = some (.cells #[.int .i64 0, .int .i64 0, .int .i64 0, .int .i64 0, .int .i64 0, .int .i64 0, .int .u64 0, .int .i64 0] 46 (0, 0))) := ⟨h1_⟩
           have n2_ : Aside0 (w.heap.size ≤ gb351) := ⟨h2_⟩
           have n3_ : Aside0 (w.heap.size ≤ gb351) := ⟨h3_⟩
           have n4_ : Aside0 (gb338 ≠ gb351) := ⟨h4_⟩
           have n5_ : Aside0 (gb351 ≠ gb338) := ⟨h5_⟩
           have n6_ : Aside0 (Below w.heap.size w w19) := ⟨h6_⟩
           clear BK338
           clear HB
           clear h0_ h1_ h2_ h3_ h4_ h5_ h6_
           have BK338 := n0_
           have BK351 := n1_
           have GW351 := n2_
           have GE351 := n3_
           have NB338_351 := n4_
           have NB351_338 := n5_
           have HB := n6_
           clear n0_ n1_ n2_ n3_ n4_ n5_ n6_
           have hHeld : w19.cell? ad339 = some (.int .u8 (rd l0 0)) ∧ w19.cell? ⟨ad339.block, ad339.off + 1, none⟩ = some (.int .u8 (rd l0 1)) ∧ w19.cell? ⟨ad339.block, ad339.off + 2, none⟩ = some (.int .u8 (rd l0 2)) ∧ w19.cell? ⟨ad339.block, ad339.off + 3, none⟩ = some (.int .u8 (rd l0 3)) ∧ w19.cell? ⟨ad339.block, ad339.off + 4, none⟩ = some (.int .u8 (rd l0 4)) ∧ w19.cell? ⟨ad339.block, ad339.off + 5, none⟩ = some (.int .u8 (rd l0 5)) ∧ w19.cell? ⟨ad339.block, ad339.off + 6, none⟩ = some (.int .u8 (rd l0 6)) ∧ w19.cell? ⟨ad339.block, ad339.off + 7, none⟩ = some (.int .u8 (rd l0 7)) := hS_
           refine norm_ (a' := ?_) ?_ ?_
           rotate_left
           ·
            simp only [putAll, Act.put, List.setIfInBounds_toArray, List.set_cons_zero, List.set_cons_succ]
            rfl
           refine one_ (i := 36) (N := none) #[true, true, true, true, true, true, true, true, true, true, true, true, true, true, true, true, true, true, true, true, true, true, true, true, true, true, true, true, true, true, true, true, true, true, true, true, true] rfl rfl (one_of HT_.out (by kernel_rfl)) (by decide) (fun K hK => ?_)
           have hs20 : w19.cell? ⟨gb351, 0, none⟩ = some (.int .i64 0) := (blk_cell BK351.out 0).trans rfl
           have hfs20 := blk_frozen BK351.out 0
           have hns20_0 := NB338_351.out
           have hms20_0 := NB351_338.out
           have hs21 : w19.cell? ⟨gb351, 1, none⟩ = some (.int .i64 0) := (blk_cell BK351.out 1).trans rfl
           have hfs21 := blk_frozen BK351.out 1
           have hns21_0 := NB338_351.out
           have hms21_0 := NB351_338.out
           have hs22 : w19.cell? ⟨gb351, 2, none⟩ = some (.int .i64 0) := (blk_cell BK351.out 2).trans rfl
           have hfs22 := blk_frozen BK351.out 2
           have hns22_0 := NB338_351.out
           have hms22_0 := NB351_338.out
           have hs23 : w19.cell? ⟨gb351, 3, none⟩ = some (.int .i64 0) := (blk_cell BK351.out 3).trans rfl
           have hfs23 := blk_frozen BK351.out 3
           have hns23_0 := NB338_351.out
           have hms23_0 := NB351_338.out
           have hs24 : w19.cell? ⟨gb351, 4, none⟩ = some (.int .i64 0) := (blk_cell BK351.out 4).trans rfl
           have hfs24 := blk_frozen BK351.out 4
           have hns24_0 := NB338_351.out
           have hms24_0 := NB351_338.out
           have hs25 : w19.cell? ⟨gb351, 5, none⟩ = some (.int .i64 0) := (blk_cell BK351.out 5).trans rfl
           have hfs25 := blk_frozen BK351.out 5
           have hns25_0 := NB338_351.out
           have hms25_0 := NB351_338.out
           have hs26 : w19.cell? ⟨gb351, 6, none⟩ = some (.int .u64 0) := (blk_cell BK351.out 6).trans rfl
           have hfs26 := blk_frozen BK351.out 6
           have hns26_0 := NB338_351.out
           have hms26_0 := NB351_338.out
           have hs27 : w19.cell? ⟨gb351, 7, none⟩ = some (.int .i64 0) := (blk_cell BK351.out 7).trans rfl
           have hfs27 := blk_frozen BK351.out 7
           have hns27_0 := NB338_351.out
           have hms27_0 := NB351_338.out
           refine skip_ (w1 := ?_) (by rfl) rfl ?_ ?_
           rotate_left
           ·
            go_simp
            rfl
           refine hK.out _ _ ⟨((cell_far (p := ⟨gb351, _, none⟩) (by first | exact Nat.ne_of_lt (Nat.lt_of_lt_of_le (by have := World.block_lt_of_cell? _ _ hw339_0; first | rwa [add_block] at this | exact this) GW351.out) | (rw [add_block]; exact Nat.ne_of_lt (Nat.lt_of_lt_of_le (by have := World.block_lt_of_cell? _ _ hw339_0; first | rwa [add_block] at this | exact this) GW351.out)) | (show (Addr.add _ _).block ≠ _; rw [add_block]; exact Nat.ne_of_lt (Nat.lt_of_lt_of_le (by have := World.block_lt_of_cell? _ _ hw339_0; first | rwa [add_block] at this | exact this) GW351.out)) | (dsimp only; exact Nat.ne_of_lt (Nat.lt_of_lt_of_le (by have := World.block_lt_of_cell? _ _ hw339_0; first | rwa [add_block] at this | exact this) GW351.out))) _).trans (((cell_far (p := ⟨gb351, _, none⟩) (by first | exact Nat.ne_of_lt (Nat.lt_of_lt_of_le (by have := World.block_lt_of_cell? _ _ hw339_0; first | rwa [add_block] at this | exact this) GW351.out) | (rw [add_block]; exact Nat.ne_of_lt (Nat.lt_of_lt_of_le (by have := World.block_lt_of_cell? _ _ hw339_0; first | rwa [add_block] at this | exact this) GW351.out)) | (show (Addr.add _ _).block ≠ _; rw [add_block]; exact Nat.ne_of_lt (Nat.lt_of_lt_of_le (by have := World.block_lt_of_cell? _ _ hw339_0; first | rwa [add_block] at this | exact this) GW351.out)) | (dsimp only; exact Nat.ne_of_lt (Nat.lt_of_lt_of_le (by have := World.block_lt_of_cell? _ _ hw339_0; first | rwa [add_block] at this | exact this) GW351.out))) _).trans (((cell_far (p := ⟨gb351, _, none⟩) (by first | exact Nat.ne_of_lt (Nat.lt_of_lt_of_le (by have := World.block_lt_of_cell? _ _ hw339_0; first | rwa [add_block] at this | exact this) GW351.out) | (rw [add_block]; exact Nat.ne_of_lt (Nat.lt_of_lt_of_le (by have := World.block_lt_of_cell? _ _ hw339_0; first | rwa [add_block] at this | exact this) GW351.out)) | (show (Addr.add _ _).block ≠ _; rw [add_block]; exact Nat.ne_of_lt (Nat.lt_of_lt_of_le (by have := World.block_lt_of_cell? _ _ hw339_0; first | rwa [add_block] at this | exact this) GW351.out)) | (dsimp only; exact Nat.ne_of_lt (Nat.lt_of_lt_of_le (by have := World.block_lt_of_cell? _ _ hw339_0; first | rwa [add_block] at this | exact this) GW351.out))) _).trans (((cell_far (p := ⟨gb351, _, none⟩) (by first | exact Nat.ne_of_lt (Nat.lt_of_lt_of_le (by have := World.block_lt_of_cell? _ _ hw339_0; first | rwa [add_block] at this | exact this) GW351.out) | (rw [add_block]; exact Nat.ne_of_lt (Nat.lt_of_lt_of_le (by have := World.block_lt_of_cell? _ _ hw339_0; first | rwa [add_block] at this | exact this) GW351.out)) | (show (Addr.add _ _).block ≠ _; rw [add_block]; exact Nat.ne_of_lt (Nat.lt_of_lt_of_le (by have := World.block_lt_of_cell? _ _ hw339_0; first | rwa [add_block] at this | exact this) GW351.out)) | (dsimp only; exact Nat.ne_of_lt (Nat.lt_of_lt_of_le (by have := World.block_lt_of_cell? _ _ hw339_0; first | rwa [add_block] at this | exact this) GW351.out))) _).trans (((cell_far (p := ⟨gb351, _, none⟩) (by first | exact Nat.ne_of_lt (Nat.lt_of_lt_of_le (by have := World.block_lt_of_cell? _ _ hw339_0; first | rwa [add_block] at this | exact this) GW351.out) | (rw [add_block]; exact Nat.ne_of_lt (Nat.lt_of_lt_of_le (by have := World.block_lt_of_cell? _ _ hw339_0; first | rwa [add_block] at this | exact this) GW351.out)) | (show (Addr.add _ _).block ≠ _; rw [add_block]; exact Nat.ne_of_lt (Nat.lt_of_lt_of_le (by have := World.block_lt_of_cell? _ _ hw339_0; first | rwa [add_block] at this | exact this) GW351.out)) | (dsimp only; exact Nat.ne_of_lt (Nat.lt_of_lt_of_le (by have := World.block_lt_of_cell? _ _ hw339_0; first | rwa [add_block] at this | exact this) GW351.out))) _).trans (((cell_far (p := ⟨gb351, _, none⟩) (by first | exact Nat.ne_of_lt (Nat.lt_of_lt_of_le (by have := World.block_lt_of_cell? _ _ hw339_0; first | rwa [add_block] at this | exact this) GW351.out) | (rw [add_block]; exact Nat.ne_of_lt (Nat.lt_of_lt_of_le (by have := World.block_lt_of_cell? _ _ hw339_0; first | rwa [add_block] at this | exact this) GW351.out)) | (show (Addr.add _ _).block ≠ _; rw [add_block]; exact Nat.ne_of_lt (Nat.lt_of_lt_of_le (by have := World.block_lt_of_cell? _ _ hw339_0; first | rwa [add_block] at this | exact this) GW351.out)) | (dsimp only; exact Nat.ne_of_lt (Nat.lt_of_lt_of_le (by have := World.block_lt_of_cell? _ _ hw339_0; first | rwa [add_block] at this | exact this) GW351.out))) _).trans (((cell_far (p := ⟨gb351, _, none⟩) (by first | exact Nat.ne_of_lt (Nat.lt_of_lt_of_le (by have := World.block_lt_of_cell? _ _ hw339_0; first | rwa [add_block] at this | exact this) GW351.out) | (rw [add_block]; exact Nat.ne_of_lt (Nat.lt_of_lt_of_le (by have := World.block_lt_of_cell? _ _ hw339_0; first | rwa [add_block] at this | exact this) GW351.out)) | (show (Addr.add _ _).block ≠ _; rw [add_block]; exact Nat.ne_of_lt (Nat.lt_of_lt_of_le (by have := World.block_lt_of_cell? _ _ hw339_0; first | rwa [add_block] at this | exact this) GW351.out)) | (dsimp only; exact Nat.ne_of_lt (Nat.lt_of_lt_of_le (by have := World.block_lt_of_cell? _ _ hw339_0; first | rwa [add_block] at this | exact this) GW351.out))) _).trans (((cell_far (p := ⟨gb351, _, none⟩) (by first | exact Nat.ne_of_lt (Nat.lt_of_lt_of_le (by have := World.block_lt_of_cell? _ _ hw339_0; first | rwa [add_block] at this | exact this) GW351.out) | (rw [add_block]; exact Nat.ne_of_lt (Nat.lt_of_lt_of_le (by have := World.block_lt_of_cell? _ _ hw339_0; first | rwa [add_block] at this | exact this) GW351.out)) | (show (Addr.add _ _).block ≠ _; rw [add_block]; exact Nat.ne_of_lt (Nat.lt_of_lt_of_le (by have := World.block_lt_of_cell? _ _ hw339_0; first | rwa [add_block] at this | exact this) GW351.out)) | (dsimp only; exact Nat.ne_of_lt (Nat.lt_of_lt_of_le (by have := World.block_lt_of_cell? _ _ hw339_0; first | rwa [add_block] at this | exact this) GW351.out))) _).trans (hHeld.1)))))))))))))))), ((cell_far (p := ⟨gb351, _, none⟩) (by first | exact Nat.ne_of_lt (Nat.lt_of_lt_of_le (by have := World.block_lt_of_cell? _ _ hw340_0; first | rwa [add_block] at this | exact this) GW351.out) | (rw [add_block]; exact Nat.ne_of_lt (Nat.lt_of_lt_of_le (by have := World.block_lt_of_cell? _ _ hw340_0; first | rwa [add_block] at this | exact this) GW351.out)) | (show (Addr.add _ _).block ≠ _; rw [add_block]; exact Nat.ne_of_lt (Nat.lt_of_lt_of_le (by have := World.block_lt_of_cell? _ _ hw340_0; first | rwa [add_block] at this | exact this) GW351.out)) | (dsimp only; exact Nat.ne_of_lt (Nat.lt_of_lt_of_le (by have := World.block_lt_of_cell? _ _ hw340_0; first | rwa [add_block] at this | exact this) GW351.out))) _).trans (((cell_far (p := ⟨gb351, _, none⟩) (by first | exact Nat.ne_of_lt (Nat.lt_of_lt_of_le (by have := World.block_lt_of_cell? _ _ hw340_0; first | rwa [add_block] at this | exact this) GW351.out) | (rw [add_block]; exact Nat.ne_of_lt (Nat.lt_of_lt_of_le (by have := World.block_lt_of_cell? _ _ hw340_0; first | rwa [add_block] at this | exact this) GW351.out)) | (show (Addr.add _ _).block ≠ _; rw [add_block]; exact Nat.ne_of_lt (Nat.lt_of_lt_of_le (by have := World.block_lt_of_cell? _ _ hw340_0; first | rwa [add_block] at this | exact this) GW351.out)) | (dsimp only; exact Nat.ne_of_lt (Nat.lt_of_lt_of_le (by have := World.block_lt_of_cell? _ _ hw340_0; first | rwa [add_block] at this | exact this) GW351.out))) _).trans (((cell_far (p := ⟨gb351, _, none⟩) (by first | exact Nat.ne_of_lt (Nat.lt_of_lt_of_le (by have := World.block_lt_of_cell? _ _ hw340_0; first | rwa [add_block] at this | exact this) GW351.out) | (rw [add_block]; exact Nat.ne_of_lt (Nat.lt_of_lt_of_le (by have := World.block_lt_of_cell? _ _ hw340_0; first | rwa [add_block] at this | exact this) GW351.out)) | (show (Addr.add _ _).block ≠ _; rw [add_block]; exact Nat.ne_of_lt (Nat.lt_of_lt_of_le (by have := World.block_lt_of_cell? _ _ hw340_0; first | rwa [add_block] at this | exact this) GW351.out)) | (dsimp only; exact Nat.ne_of_lt (Nat.lt_of_lt_of_le (by have := World.block_lt_of_cell? _ _ hw340_0; first | rwa [add_block] at this | exact this) GW351.out))) _).trans (((cell_far (p := ⟨gb351, _, none⟩) (by first | exact Nat.ne_of_lt (Nat.lt_of_lt_of_le (by have := World.block_lt_of_cell? _ _ hw340_0; first | rwa [add_block] at this | exact this) GW351.out) | (rw [add_block]; exact Nat.ne_of_lt (Nat.lt_of_lt_of_le (by have := World.block_lt_of_cell? _ _ hw340_0; first | rwa [add_block] at this | exact this) GW351.out)) | (show (Addr.add _ _).block ≠ _; rw [add_block]; exact Nat.ne_of_lt (Nat.lt_of_lt_of_le (by have := World.block_lt_of_cell? _ _ hw340_0; first | rwa [add_block] at this | exact this) GW351.out)) | (dsimp only; exact Nat.ne_of_lt (Nat.lt_of_lt_of_le (by have := World.block_lt_of_cell? _ _ hw340_0; first | rwa [add_block] at this | exact this) GW351.out))) _).trans (((cell_far (p := ⟨gb351, _, none⟩) (by first | exact Nat.ne_of_lt (Nat.lt_of_lt_of_le (by have := World.block_lt_of_cell? _ _ hw340_0; first | rwa [add_block] at this | exact this) GW351.out) | (rw [add_block]; exact Nat.ne_of_lt (Nat.lt_of_lt_of_le (by have := World.block_lt_of_cell? _ _ hw340_0; first | rwa [add_block] at this | exact this) GW351.out)) | (show (Addr.add _ _).block ≠ _; rw [add_block]; exact Nat.ne_of_lt (Nat.lt_of_lt_of_le (by have := World.block_lt_of_cell? _ _ hw340_0; first | rwa [add_block] at this | exact this) GW351.out)) | (dsimp only; exact Nat.ne_of_lt (Nat.lt_of_lt_of_le (by have := World.block_lt_of_cell? _ _ hw340_0; first | rwa [add_block] at this | exact this) GW351.out))) _).trans (((cell_far (p := ⟨gb351, _, none⟩) (by first | exact Nat.ne_of_lt (Nat.lt_of_lt_of_le (by have := World.block_lt_of_cell? _ _ hw340_0; first | rwa [add_block] at this | exact this) GW351.out) | (rw [add_block]; exact Nat.ne_of_lt (Nat.lt_of_lt_of_le (by have := World.block_lt_of_cell? _ _ hw340_0; first | rwa [add_block] at this | exact this) GW351.out)) | (show (Addr.add _ _).block ≠ _; rw [add_block]; exact Nat.ne_of_lt (Nat.lt_of_lt_of_le (by have := World.block_lt_of_cell? _ _ hw340_0; first | rwa [add_block] at this | exact this) GW351.out)) | (dsimp only; exact Nat.ne_of_lt (Nat.lt_of_lt_of_le (by have := World.block_lt_of_cell? _ _ hw340_0; first | rwa [add_block] at this | exact this) GW351.out))) _).trans (((cell_far (p := ⟨gb351, _, none⟩) (by first | exact Nat.ne_of_lt (Nat.lt_of_lt_of_le (by have := World.block_lt_of_cell? _ _ hw340_0; first | rwa [add_block] at this | exact this) GW351.out) | (rw [add_block]; exact Nat.ne_of_lt (Nat.lt_of_lt_of_le (by have := World.block_lt_of_cell? _ _ hw340_0; first | rwa [add_block] at this | exact this) GW351.out)) | (show (Addr.add _ _).block ≠ _; rw [add_block]; exact Nat.ne_of_lt (Nat.lt_of_lt_of_le (by have := World.block_lt_of_cell? _ _ hw340_0; first | rwa [add_block] at this | exact this) GW351.out)) | (dsimp only; exact Nat.ne_of_lt (Nat.lt_of_lt_of_le (by have := World.block_lt_of_cell? _ _ hw340_0; first | rwa [add_block] at this | exact this) GW351.out))) _).trans (((cell_far (p := ⟨gb351, _, none⟩) (by first | exact Nat.ne_of_lt (Nat.lt_of_lt_of_le (by have := World.block_lt_of_cell? _ _ hw340_0; first | rwa [add_block] at this | exact this) GW351.out) | (rw [add_block]; exact Nat.ne_of_lt (Nat.lt_of_lt_of_le (by have := World.block_lt_of_cell? _ _ hw340_0; first | rwa [add_block] at this | exact this) GW351.out)) | (show (Addr.add _ _).block ≠ _; rw [add_block]; exact Nat.ne_of_lt (Nat.lt_of_lt_of_le (by have := World.block_lt_of_cell? _ _ hw340_0; first | rwa [add_block] at this | exact this) GW351.out)) | (dsimp only; exact Nat.ne_of_lt (Nat.lt_of_lt_of_le (by have := World.block_lt_of_cell? _ _ hw340_0; first | rwa [add_block] at this | exact this) GW351.out))) _).trans (hHeld.2.1)))))))))))))))), ((cell_far (p := ⟨gb351, _, none⟩) (by first | exact Nat.ne_of_lt (Nat.lt_of_lt_of_le (by have := World.block_lt_of_cell? _ _ hw341_0; first | rwa [add_block] at this | exact this) GW351.out) | (rw [add_block]; exact Nat.ne_of_lt (Nat.lt_of_lt_of_le (by have := World.block_lt_of_cell? _ _ hw341_0; first | rwa [add_block] at this | exact this) GW351.out)) | (show (Addr.add _ _).block ≠ _; rw [add_block]; exact Nat.ne_of_lt (Nat.lt_of_lt_of_le (by have := World.block_lt_of_cell? _ _ hw341_0; first | rwa [add_block] at this | exact this) GW351.out)) | (dsimp only; exact Nat.ne_of_lt (Nat.lt_of_lt_of_le (by have := World.block_lt_of_cell? _ _ hw341_0; first | rwa [add_block] at this | exact this) GW351.out))) _).trans (((cell_far (p := ⟨gb351, _, none⟩) (by first | exact Nat.ne_of_lt (Nat.lt_of_lt_of_le (by have := World.block_lt_of_cell? _ _ hw341_0; first | rwa [add_block] at this | exact this) GW351.out) | (rw [add_block]; exact Nat.ne_of_lt (Nat.lt_of_lt_of_le (by have := World.block_lt_of_cell? _ _ hw341_0; first | rwa [add_block] at this | exact this) GW351.out)) | (show (Addr.add _ _).block ≠ _; rw [add_block]; exact Nat.ne_of_lt (Nat.lt_of_lt_of_le (by have := World.block_lt_of_cell? _ _ hw341_0; first | rwa [add_block] at this | exact this) GW351.out)) | (dsimp only; exact Nat.ne_of_lt (Nat.lt_of_lt_of_le (by have := World.block_lt_of_cell? _ _ hw341_0; first | rwa [add_block] at this | exact this) GW351.out))) _).trans (((cell_far (p := ⟨gb351, _, none⟩) (by first | exact Nat.ne_of_lt (Nat.lt_of_lt_of_le (by have := World.block_lt_of_cell? _ _ hw341_0; first | rwa [add_block] at this | exact this) GW351.out) | (rw [add_block]; exact Nat.ne_of_lt (Nat.lt_of_lt_of_le (by have := World.block_lt_of_cell? _ _ hw341_0; first | rwa [add_block] at this | exact this) GW351.out)) | (show (Addr.add _ _).block ≠ _; rw [add_block]; exact Nat.ne_of_lt (Nat.lt_of_lt_of_le (by have := World.block_lt_of_cell? _ _ hw341_0; first | rwa [add_block] at this | exact this) GW351.out)) | (dsimp only; exact Nat.ne_of_lt (Nat.lt_of_lt_of_le (by have := World.block_lt_of_cell? _ _ hw341_0; first | rwa [add_block] at this | exact this) GW351.out))) _).trans (((cell_far (p := ⟨gb351, _, none⟩) (by first | exact Nat.ne_of_lt (Nat.lt_of_lt_of_le (by have := World.block_lt_of_cell? _ _ hw341_0; first | rwa [add_block] at this | exact this) GW351.out) | (rw [add_block]; exact Nat.ne_of_lt (Nat.lt_of_lt_of_le (by have := World.block_lt_of_cell? _ _ hw341_0; first | rwa [add_block] at this | exact this) GW351.out)) | (show (Addr.add _ _).block ≠ _; rw [add_block]; exact Nat.ne_of_lt (Nat.lt_of_lt_of_le (by have := World.block_lt_of_cell? _ _ hw341_0; first | rwa [add_block] at this | exact this) GW351.out)) | (dsimp only; exact Nat.ne_of_lt (Nat.lt_of_lt_of_le (by have := World.block_lt_of_cell? _ _ hw341_0; first | rwa [add_block] at this | exact this) GW351.out))) _).trans (((cell_far (p := ⟨gb351, _, none⟩) (by first | exact Nat.ne_of_lt (Nat.lt_of_lt_of_le (by have := World.block_lt_of_cell? _ _ hw341_0; first | rwa [add_block] at this | exact this) GW351.out) | (rw [add_block]; exact Nat.ne_of_lt (Nat.lt_of_lt_of_le (by have := World.block_lt_of_cell? _ _ hw341_0; first | rwa [add_block] at this | exact this) GW351.out)) | (show (Addr.add _ _).block ≠ _; rw [add_block]; exact Nat.ne_of_lt (Nat.lt_of_lt_of_le (by have := World.block_lt_of_cell? _ _ hw341_0; first | rwa [add_block] at this | exact this) GW351.out)) | (dsimp only; exact Nat.ne_of_lt (Nat.lt_of_lt_of_le (by have := World.block_lt_of_cell? _ _ hw341_0; first | rwa [add_block] at this | exact this) GW351.out))) _).trans (((cell_far (p := ⟨gb351, _, none⟩) (by first | exact Nat.ne_of_lt (Nat.lt_of_lt_of_le (by have := World.block_lt_of_cell? _ _ hw341_0; first | rwa [add_block] at this | exact this) GW351.out) | (rw [add_block]; exact Nat.ne_of_lt (Nat.lt_of_lt_of_le (by have := World.block_lt_of_cell? _ _ hw341_0; first | rwa [add_block] at this | exact this) GW351.out)) | (show (Addr.add _ _).block ≠ _; rw [add_block]; exact Nat.ne_of_lt (Nat.lt_of_lt_of_le (by have := World.block_lt_of_cell? _ _ hw341_0; first | rwa [add_block] at this | exact this) GW351.out)) | (dsimp only; exact Nat.ne_of_lt (Nat.lt_of_lt_of_le (by have := World.block_lt_of_cell? _ _ hw341_0; first | rwa [add_block] at this | exact this) GW351.out))) _).trans (((cell_far (p := ⟨gb351, _, none⟩) (by first | exact Nat.ne_of_lt (Nat.lt_of_lt_of_le (by have := World.block_lt_of_cell? _ _ hw341_0; first | rwa [add_block] at this | exact this) GW351.out) | (rw [add_block]; exact Nat.ne_of_lt (Nat.lt_of_lt_of_le (by have := World.block_lt_of_cell? _ _ hw341_0; first | rwa [add_block] at this | exact this) GW351.out)) | (show (Addr.add _ _).block ≠ _; rw [add_block]; exact Nat.ne_of_lt (Nat.lt_of_lt_of_le (by have := World.block_lt_of_cell? _ _ hw341_0; first | rwa [add_block] at this | exact this) GW351.out)) | (dsimp only; exact Nat.ne_of_lt (Nat.lt_of_lt_of_le (by have := World.block_lt_of_cell? _ _ hw341_0; first | rwa [add_block] at this | exact this) GW351.out))) _).trans (((cell_far (p := ⟨gb351, _, none⟩) (by first | exact Nat.ne_of_lt (Nat.lt_of_lt_of_le (by have := World.block_lt_of_cell? _ _ hw341_0; first | rwa [add_block] at this | exact this) GW351.out) | (rw [add_block]; exact Nat.ne_of_lt (Nat.lt_of_lt_of_le (by have := World.block_lt_of_cell? _ _ hw341_0; first | rwa [add_block] at this | exact this) GW351.out)) | (show (Addr.add _ _).block ≠ _; rw [add_block]; exact Nat.ne_of_lt (Nat.lt_of_lt_of_le (by have := World.block_lt_of_cell? _ _ hw341_0; first | rwa [add_block] at this | exact this) GW351.out)) | (dsimp only; exact Nat.ne_of_lt (Nat.lt_of_lt_of_le (by have := World.block_lt_of_cell? _ _ hw341_0; first | rwa [add_block] at this | exact this) GW351.out))) _).trans (hHeld.2.2.1)))))))))))))))), ((cell_far (p := ⟨gb351, _, none⟩) (by first | exact Nat.ne_of_lt (Nat.lt_of_lt_of_le (by have := World.block_lt_of_cell? _ _ hw343_0; first | rwa [add_block] at this | exact this) GW351.out) | (rw [add_block]; exact Nat.ne_of_lt (Nat.lt_of_lt_of_le (by have := World.block_lt_of_cell? _ _ hw343_0; first | rwa [add_block] at this | exact this) GW351.out)) | (show (Addr.add _ _).block ≠ _; rw [add_block]; exact Nat.ne_of_lt (Nat.lt_of_lt_of_le (by have := World.block_lt_of_cell? _ _ hw343_0; first | rwa [add_block] at this | exact this) GW351.out)) | (dsimp only; exact Nat.ne_of_lt (Nat.lt_of_lt_of_le (by have := World.block_lt_of_cell? _ _ hw343_0; first | rwa [add_block] at this | exact this) GW351.out))) _).trans (((cell_far (p := ⟨gb351, _, none⟩) (by first | exact Nat.ne_of_lt (Nat.lt_of_lt_of_le (by have := World.block_lt_of_cell? _ _ hw343_0; first | rwa [add_block] at this | exact this) GW351.out) | (rw [add_block]; exact Nat.ne_of_lt (Nat.lt_of_lt_of_le (by have := World.block_lt_of_cell? _ _ hw343_0; first | rwa [add_block] at this | exact this) GW351.out)) | (show (Addr.add _ _).block ≠ _; rw [add_block]; exact Nat.ne_of_lt (Nat.lt_of_lt_of_le (by have := World.block_lt_of_cell? _ _ hw343_0; first | rwa [add_block] at this | exact this) GW351.out)) | (dsimp only; exact Nat.ne_of_lt (Nat.lt_of_lt_of_le (by have := World.block_lt_of_cell? _ _ hw343_0; first | rwa [add_block] at this | exact this) GW351.out))) _).trans (((cell_far (p := ⟨gb351, _, none⟩) (by first | exact Nat.ne_of_lt (Nat.lt_of_lt_of_le (by have := World.block_lt_of_cell? _ _ hw343_0; first | rwa [add_block] at this | exact this) GW351.out) | (rw [add_block]; exact Nat.ne_of_lt (Nat.lt_of_lt_of_le (by have := World.block_lt_of_cell? _ _ hw343_0; first | rwa [add_block] at this | exact this) GW351.out)) | (show (Addr.add _ _).block ≠ _; rw [add_block]; exact Nat.ne_of_lt (Nat.lt_of_lt_of_le (by have := World.block_lt_of_cell? _ _ hw343_0; first | rwa [add_block] at this | exact this) GW351.out)) | (dsimp only; exact Nat.ne_of_lt (Nat.lt_of_lt_of_le (by have := World.block_lt_of_cell? _ _ hw343_0; first | rwa [add_block] at this | exact this) GW351.out))) _).trans (((cell_far (p := ⟨gb351, _, none⟩) (by first | exact Nat.ne_of_lt (Nat.lt_of_lt_of_le (by have := World.block_lt_of_cell? _ _ hw343_0; first | rwa [add_block] at this | exact this) GW351.out) | (rw [add_block]; exact Nat.ne_of_lt (Nat.lt_of_lt_of_le (by have := World.block_lt_of_cell? _ _ hw343_0; first | rwa [add_block] at this | exact this) GW351.out)) | (show (Addr.add _ _).block ≠ _; rw [add_block]; exact Nat.ne_of_lt (Nat.lt_of_lt_of_le (by have := World.block_lt_of_cell? _ _ hw343_0; first | rwa [add_block] at this | exact this) GW351.out)) | (dsimp only; exact Nat.ne_of_lt (Nat.lt_of_lt_of_le (by have := World.block_lt_of_cell? _ _ hw343_0; first | rwa [add_block] at this | exact this) GW351.out))) _).trans (((cell_far (p := ⟨gb351, _, none⟩) (by first | exact Nat.ne_of_lt (Nat.lt_of_lt_of_le (by have := World.block_lt_of_cell? _ _ hw343_0; first | rwa [add_block] at this | exact this) GW351.out) | (rw [add_block]; exact Nat.ne_of_lt (Nat.lt_of_lt_of_le (by have := World.block_lt_of_cell? _ _ hw343_0; first | rwa [add_block] at this | exact this) GW351.out)) | (show (Addr.add _ _).block ≠ _; rw [add_block]; exact Nat.ne_of_lt (Nat.lt_of_lt_of_le (by have := World.block_lt_of_cell? _ _ hw343_0; first | rwa [add_block] at this | exact this) GW351.out)) | (dsimp only; exact Nat.ne_of_lt (Nat.lt_of_lt_of_le (by have := World.block_lt_of_cell? _ _ hw343_0; first | rwa [add_block] at this | exact this) GW351.out))) _).trans (((cell_far (p := ⟨gb351, _, none⟩) (by first | exact Nat.ne_of_lt (Nat.lt_of_lt_of_le (by have := World.block_lt_of_cell? _ _ hw343_0; first | rwa [add_block] at this | exact this) GW351.out) | (rw [add_block]; exact Nat.ne_of_lt (Nat.lt_of_lt_of_le (by have := World.block_lt_of_cell? _ _ hw343_0; first | rwa [add_block] at this | exact this) GW351.out)) | (show (Addr.add _ _).block ≠ _; rw [add_block]; exact Nat.ne_of_lt (Nat.lt_of_lt_of_le (by have := World.block_lt_of_cell? _ _ hw343_0; first | rwa [add_block] at this | exact this) GW351.out)) | (dsimp only; exact Nat.ne_of_lt (Nat.lt_of_lt_of_le (by have := World.block_lt_of_cell? _ _ hw343_0; first | rwa [add_block] at this | exact this) GW351.out))) _).trans (((cell_far (p := ⟨gb351, _, none⟩) (by first | exact Nat.ne_of_lt (Nat.lt_of_lt_of_le (by have := World.block_lt_of_cell? _ _ hw343_0; first | rwa [add_block] at this | exact this) GW351.out) | (rw [add_block]; exact Nat.ne_of_lt (Nat.lt_of_lt_of_le (by have := World.block_lt_of_cell? _ _ hw343_0; first | rwa [add_block] at this | exact this) GW351.out)) | (show (Addr.add _ _).block ≠ _; rw [add_block]; exact Nat.ne_of_lt (Nat.lt_of_lt_of_le (by have := World.block_lt_of_cell? _ _ hw343_0; first | rwa [add_block] at this | exact this) GW351.out)) | (dsimp only; exact Nat.ne_of_lt (Nat.lt_of_lt_of_le (by have := World.block_lt_of_cell? _ _ hw343_0; first | rwa [add_block] at this | exact this) GW351.out))) _).trans (((cell_far (p := ⟨gb351, _, none⟩) (by first | exact Nat.ne_of_lt (Nat.lt_of_lt_of_le (by have := World.block_lt_of_cell? _ _ hw343_0; first | rwa [add_block] at this | exact this) GW351.out) | (rw [add_block]; exact Nat.ne_of_lt (Nat.lt_of_lt_of_le (by have := World.block_lt_of_cell? _ _ hw343_0; first | rwa [add_block] at this | exact this) GW351.out)) | (show (Addr.add _ _).block ≠ _; rw [add_block]; exact Nat.ne_of_lt (Nat.lt_of_lt_of_le (by have := World.block_lt_of_cell? _ _ hw343_0; first | rwa [add_block] at this | exact this) GW351.out)) | (dsimp only; exact Nat.ne_of_lt (Nat.lt_of_lt_of_le (by have := World.block_lt_of_cell? _ _ hw343_0; first | rwa [add_block] at this | exact this) GW351.out))) _).trans (hHeld.2.2.2.1)))))))))))))))), ((cell_far (p := ⟨gb351, _, none⟩) (by first | exact Nat.ne_of_lt (Nat.lt_of_lt_of_le (by have := World.block_lt_of_cell? _ _ hw345_0; first | rwa [add_block] at this | exact this) GW351.out) | (rw [add_block]; exact Nat.ne_of_lt (Nat.lt_of_lt_of_le (by have := World.block_lt_of_cell? _ _ hw345_0; first | rwa [add_block] at this | exact this) GW351.out)) | (show (Addr.add _ _).block ≠ _; rw [add_block]; exact Nat.ne_of_lt (Nat.lt_of_lt_of_le (by have := World.block_lt_of_cell? _ _ hw345_0; first | rwa [add_block] at this | exact this) GW351.out)) | (dsimp only; exact Nat.ne_of_lt (Nat.lt_of_lt_of_le (by have := World.block_lt_of_cell? _ _ hw345_0; first | rwa [add_block] at this | exact this) GW351.out))) _).trans (((cell_far (p := ⟨gb351, _, none⟩) (by first | exact Nat.ne_of_lt (Nat.lt_of_lt_of_le (by have := World.block_lt_of_cell? _ _ hw345_0; first | rwa [add_block] at this | exact this) GW351.out) | (rw [add_block]; exact Nat.ne_of_lt (Nat.lt_of_lt_of_le (by have := World.block_lt_of_cell? _ _ hw345_0; first | rwa [add_block] at this | exact this) GW351.out)) | (show (Addr.add _ _).block ≠ _; rw [add_block]; exact Nat.ne_of_lt (Nat.lt_of_lt_of_le (by have := World.block_lt_of_cell? _ _ hw345_0; first | rwa [add_block] at this | exact this) GW351.out)) | (dsimp only; exact Nat.ne_of_lt (Nat.lt_of_lt_of_le (by have := World.block_lt_of_cell? _ _ hw345_0; first | rwa [add_block] at this | exact this) GW351.out))) _).trans (((cell_far (p := ⟨gb351, _, none⟩) (by first | exact Nat.ne_of_lt (Nat.lt_of_lt_of_le (by have := World.block_lt_of_cell? _ _ hw345_0; first | rwa [add_block] at this | exact this) GW351.out) | (rw [add_block]; exact Nat.ne_of_lt (Nat.lt_of_lt_of_le (by have := World.block_lt_of_cell? _ _ hw345_0; first | rwa [add_block] at this | exact this) GW351.out)) | (show (Addr.add _ _).block ≠ _; rw [add_block]; exact Nat.ne_of_lt (Nat.lt_of_lt_of_le (by have := World.block_lt_of_cell? _ _ hw345_0; first | rwa [add_block] at this | exact this) GW351.out)) | (dsimp only; exact Nat.ne_of_lt (Nat.lt_of_lt_of_le (by have := World.block_lt_of_cell? _ _ hw345_0; first | rwa [add_block] at this | exact this) GW351.out))) _).trans (((cell_far (p := ⟨gb351, _, none⟩) (by first | exact Nat.ne_of_lt (Nat.lt_of_lt_of_le (by have := World.block_lt_of_cell? _ _ hw345_0; first | rwa [add_block] at this | exact this) GW351.out) | (rw [add_block]; exact Nat.ne_of_lt (Nat.lt_of_lt_of_le (by have := World.block_lt_of_cell? _ _ hw345_0; first | rwa [add_block] at this | exact this) GW351.out)) | (show (Addr.add _ _).block ≠ _; rw [add_block]; exact Nat.ne_of_lt (Nat.lt_of_lt_of_le (by have := World.block_lt_of_cell? _ _ hw345_0; first | rwa [add_block] at this | exact this) GW351.out)) | (dsimp only; exact Nat.ne_of_lt (Nat.lt_of_lt_of_le (by have := World.block_lt_of_cell? _ _ hw345_0; first | rwa [add_block] at this | exact this) GW351.out))) _).trans (((cell_far (p := ⟨gb351, _, none⟩) (by first | exact Nat.ne_of_lt (Nat.lt_of_lt_of_le (by have := World.block_lt_of_cell? _ _ hw345_0; first | rwa [add_block] at this | exact this) GW351.out) | (rw [add_block]; exact Nat.ne_of_lt (Nat.lt_of_lt_of_le (by have := World.block_lt_of_cell? _ _ hw345_0; first | rwa [add_block] at this | exact this) GW351.out)) | (show (Addr.add _ _).block ≠ _; rw [add_block]; exact Nat.ne_of_lt (Nat.lt_of_lt_of_le (by have := World.block_lt_of_cell? _ _ hw345_0; first | rwa [add_block] at this | exact this) GW351.out)) | (dsimp only; exact Nat.ne_of_lt (Nat.lt_of_lt_of_le (by have := World.block_lt_of_cell? _ _ hw345_0; first | rwa [add_block] at this | exact this) GW351.out))) _).trans (((cell_far (p := ⟨gb351, _, none⟩) (by first | exact Nat.ne_of_lt (Nat.lt_of_lt_of_le (by have := World.block_lt_of_cell? _ _ hw345_0; first | rwa [add_block] at this | exact this) GW351.out) | (rw [add_block]; exact Nat.ne_of_lt (Nat.lt_of_lt_of_le (by have := World.block_lt_of_cell? _ _ hw345_0; first | rwa [add_block] at this | exact this) GW351.out)) | (show (Addr.add _ _).block ≠ _; rw [add_block]; exact Nat.ne_of_lt (Nat.lt_of_lt_of_le (by have := World.block_lt_of_cell? _ _ hw345_0; first | rwa [add_block] at this | exact this) GW351.out)) | (dsimp only; exact Nat.ne_of_lt (Nat.lt_of_lt_of_le (by have := World.block_lt_of_cell? _ _ hw345_0; first | rwa [add_block] at this | exact this) GW351.out))) _).trans (((cell_far (p := ⟨gb351, _, none⟩) (by first | exact Nat.ne_of_lt (Nat.lt_of_lt_of_le (by have := World.block_lt_of_cell? _ _ hw345_0; first | rwa [add_block] at this | exact this) GW351.out) | (rw [add_block]; exact Nat.ne_of_lt (Nat.lt_of_lt_of_le (by have := World.block_lt_of_cell? _ _ hw345_0; first | rwa [add_block] at this | exact this) GW351.out)) | (show (Addr.add _ _).block ≠ _; rw [add_block]; exact Nat.ne_of_lt (Nat.lt_of_lt_of_le (by have := World.block_lt_of_cell? _ _ hw345_0; first | rwa [add_block] at this | exact this) GW351.out)) | (dsimp only; exact Nat.ne_of_lt (Nat.lt_of_lt_of_le (by have := World.block_lt_of_cell? _ _ hw345_0; first | rwa [add_block] at this | exact this) GW351.out))) _).trans (((cell_far (p := ⟨gb351, _, none⟩) (by first | exact Nat.ne_of_lt (Nat.lt_of_lt_of_le (by have := World.block_lt_of_cell? _ _ hw345_0; first | rwa [add_block] at this | exact this) GW351.out) | (rw [add_block]; exact Nat.ne_of_lt (Nat.lt_of_lt_of_le (by have := World.block_lt_of_cell? _ _ hw345_0; first | rwa [add_block] at this | exact this) GW351.out)) | (show (Addr.add _ _).block ≠ _; rw [add_block]; exact Nat.ne_of_lt (Nat.lt_of_lt_of_le (by have := World.block_lt_of_cell? _ _ hw345_0; first | rwa [add_block] at this | exact this) GW351.out)) | (dsimp only; exact Nat.ne_of_lt (Nat.lt_of_lt_of_le (by have := World.block_lt_of_cell? _ _ hw345_0; first | rwa [add_block] at this | exact this) GW351.out))) _).trans (hHeld.2.2.2.2.1)))))))))))))))), ((cell_far (p := ⟨gb351, _, none⟩) (by first | exact Nat.ne_of_lt (Nat.lt_of_lt_of_le (by have := World.block_lt_of_cell? _ _ hw347_0; first | rwa [add_block] at this | exact this) GW351.out) | (rw [add_block]; exact Nat.ne_of_lt (Nat.lt_of_lt_of_le (by have := World.block_lt_of_cell? _ _ hw347_0; first | rwa [add_block] at this | exact this) GW351.out)) | (show (Addr.add _ _).block ≠ _; rw [add_block]; exact Nat.ne_of_lt (Nat.lt_of_lt_of_le (by have := World.block_lt_of_cell? _ _ hw347_0; first | rwa [add_block] at this | exact this) GW351.out)) | (dsimp only; exact Nat.ne_of_lt (Nat.lt_of_lt_of_le (by have := World.block_lt_of_cell? _ _ hw347_0; first | rwa [add_block] at this | exact this) GW351.out))) _).trans (((cell_far (p := ⟨gb351, _, none⟩) (by first | exact Nat.ne_of_lt (Nat.lt_of_lt_of_le (by have := World.block_lt_of_cell? _ _ hw347_0; first | rwa [add_block] at this | exact this) GW351.out) | (rw [add_block]; exact Nat.ne_of_lt (Nat.lt_of_lt_of_le (by have := World.block_lt_of_cell? _ _ hw347_0; first | rwa [add_block] at this | exact this) GW351.out)) | (show (Addr.add _ _).block ≠ _; rw [add_block]; exact Nat.ne_of_lt (Nat.lt_of_lt_of_le (by have := World.block_lt_of_cell? _ _ hw347_0; first | rwa [add_block] at this | exact this) GW351.out)) | (dsimp only; exact Nat.ne_of_lt (Nat.lt_of_lt_of_le (by have := World.block_lt_of_cell? _ _ hw347_0; first | rwa [add_block] at this | exact this) GW351.out))) _).trans (((cell_far (p := ⟨gb351, _, none⟩) (by first | exact Nat.ne_of_lt (Nat.lt_of_lt_of_le (by have := World.block_lt_of_cell? _ _ hw347_0; first | rwa [add_block] at this | exact this) GW351.out) | (rw [add_block]; exact Nat.ne_of_lt (Nat.lt_of_lt_of_le (by have := World.block_lt_of_cell? _ _ hw347_0; first | rwa [add_block] at this | exact this) GW351.out)) | (show (Addr.add _ _).block ≠ _; rw [add_block]; exact Nat.ne_of_lt (Nat.lt_of_lt_of_le (by have := World.block_lt_of_cell? _ _ hw347_0; first | rwa [add_block] at this | exact this) GW351.out)) | (dsimp only; exact Nat.ne_of_lt (Nat.lt_of_lt_of_le (by have := World.block_lt_of_cell? _ _ hw347_0; first | rwa [add_block] at this | exact this) GW351.out))) _).trans (((cell_far (p := ⟨gb351, _, none⟩) (by first | exact Nat.ne_of_lt (Nat.lt_of_lt_of_le (by have := World.block_lt_of_cell? _ _ hw347_0; first | rwa [add_block] at this | exact this) GW351.out) | (rw [add_block]; exact Nat.ne_of_lt (Nat.lt_of_lt_of_le (by have := World.block_lt_of_cell? _ _ hw347_0; first | rwa [add_block] at this | exact this) GW351.out)) | (show (Addr.add _ _).block ≠ _; rw [add_block]; exact Nat.ne_of_lt (Nat.lt_of_lt_of_le (by have := World.block_lt_of_cell? _ _ hw347_0; first | rwa [add_block] at this | exact this) GW351.out)) | (dsimp only; exact Nat.ne_of_lt (Nat.lt_of_lt_of_le (by have := World.block_lt_of_cell? _ _ hw347_0; first | rwa [add_block] at this | exact this) GW351.out))) _).trans (((cell_far (p := ⟨gb351, _, none⟩) (by first | exact Nat.ne_of_lt (Nat.lt_of_lt_of_le (by have := World.block_lt_of_cell? _ _ hw347_0; first | rwa [add_block] at this | exact this) GW351.out) | (rw [add_block]; exact Nat.ne_of_lt (Nat.lt_of_lt_of_le (by have := World.block_lt_of_cell? _ _ hw347_0; first | rwa [add_block] at this | exact this) GW351.out)) | (show (Addr.add _ _).block ≠ _; rw [add_block]; exact Nat.ne_of_lt (Nat.lt_of_lt_of_le (by have := World.block_lt_of_cell? _ _ hw347_0; first | rwa [add_block] at this | exact this) GW351.out)) | (dsimp only; exact Nat.ne_of_lt (Nat.lt_of_lt_of_le (by have := World.block_lt_of_cell? _ _ hw347_0; first | rwa [add_block] at this | exact this) GW351.out))) _).trans (((cell_far (p := ⟨gb351, _, none⟩) (by first | exact Nat.ne_of_lt (Nat.lt_of_lt_of_le (by have := World.block_lt_of_cell? _ _ hw347_0; first | rwa [add_block] at this | exact this) GW351.out) | (rw [add_block]; exact Nat.ne_of_lt (Nat.lt_of_lt_of_le (by have := World.block_lt_of_cell? _ _ hw347_0; first | rwa [add_block] at this | exact this) GW351.out)) | (show (Addr.add _ _).block ≠ _; rw [add_block]; exact Nat.ne_of_lt (Nat.lt_of_lt_of_le (by have := World.block_lt_of_cell? _ _ hw347_0; first | rwa [add_block] at this | exact this) GW351.out)) | (dsimp only; exact Nat.ne_of_lt (Nat.lt_of_lt_of_le (by have := World.block_lt_of_cell? _ _ hw347_0; first | rwa [add_block] at this | exact this) GW351.out))) _).trans (((cell_far (p := ⟨gb351, _, none⟩) (by first | exact Nat.ne_of_lt (Nat.lt_of_lt_of_le (by have := World.block_lt_of_cell? _ _ hw347_0; first | rwa [add_block] at this | exact this) GW351.out) | (rw [add_block]; exact Nat.ne_of_lt (Nat.lt_of_lt_of_le (by have := World.block_lt_of_cell? _ _ hw347_0; first | rwa [add_block] at this | exact this) GW351.out)) | (show (Addr.add _ _).block ≠ _; rw [add_block]; exact Nat.ne_of_lt (Nat.lt_of_lt_of_le (by have := World.block_lt_of_cell? _ _ hw347_0; first | rwa [add_block] at this | exact this) GW351.out)) | (dsimp only; exact Nat.ne_of_lt (Nat.lt_of_lt_of_le (by have := World.block_lt_of_cell? _ _ hw347_0; first | rwa [add_block] at this | exact this) GW351.out))) _).trans (((cell_far (p := ⟨gb351, _, none⟩) (by first | exact Nat.ne_of_lt (Nat.lt_of_lt_of_le (by have := World.block_lt_of_cell? _ _ hw347_0; first | rwa [add_block] at this | exact this) GW351.out) | (rw [add_block]; exact Nat.ne_of_lt (Nat.lt_of_lt_of_le (by have := World.block_lt_of_cell? _ _ hw347_0; first | rwa [add_block] at this | exact this) GW351.out)) | (show (Addr.add _ _).block ≠ _; rw [add_block]; exact Nat.ne_of_lt (Nat.lt_of_lt_of_le (by have := World.block_lt_of_cell? _ _ hw347_0; first | rwa [add_block] at this | exact this) GW351.out)) | (dsimp only; exact Nat.ne_of_lt (Nat.lt_of_lt_of_le (by have := World.block_lt_of_cell? _ _ hw347_0; first | rwa [add_block] at this | exact this) GW351.out))) _).trans (hHeld.2.2.2.2.2.1)))))))))))))))), ((cell_far (p := ⟨gb351, _, none⟩) (by first | exact Nat.ne_of_lt (Nat.lt_of_lt_of_le (by have := World.block_lt_of_cell? _ _ hw349_0; first | rwa [add_block] at this | exact this) GW351.out) | (rw [add_block]; exact Nat.ne_of_lt (Nat.lt_of_lt_of_le (by have := World.block_lt_of_cell? _ _ hw349_0; first | rwa [add_block] at this | exact this) GW351.out)) | (show (Addr.add _ _).block ≠ _; rw [add_block]; exact Nat.ne_of_lt (Nat.lt_of_lt_of_le (by have := World.block_lt_of_cell? _ _ hw349_0; first | rwa [add_block] at this | exact this) GW351.out)) | (dsimp only; exact Nat.ne_of_lt (Nat.lt_of_lt_of_le (by have := World.block_lt_of_cell? _ _ hw349_0; first | rwa [add_block] at this | exact this) GW351.out))) _).trans (((cell_far (p := ⟨gb351, _, none⟩) (by first | exact Nat.ne_of_lt (Nat.lt_of_lt_of_le (by have := World.block_lt_of_cell? _ _ hw349_0; first | rwa [add_block] at this | exact this) GW351.out) | (rw [add_block]; exact Nat.ne_of_lt (Nat.lt_of_lt_of_le (by have := World.block_lt_of_cell? _ _ hw349_0; first | rwa [add_block] at this | exact this) GW351.out)) | (show (Addr.add _ _).block ≠ _; rw [add_block]; exact Nat.ne_of_lt (Nat.lt_of_lt_of_le (by have := World.block_lt_of_cell? _ _ hw349_0; first | rwa [add_block] at this | exact this) GW351.out)) | (dsimp only; exact Nat.ne_of_lt (Nat.lt_of_lt_of_le (by have := World.block_lt_of_cell? _ _ hw349_0; first | rwa [add_block] at this | exact this) GW351.out))) _).trans (((cell_far (p := ⟨gb351, _, none⟩) (by first | exact Nat.ne_of_lt (Nat.lt_of_lt_of_le (by have := World.block_lt_of_cell? _ _ hw349_0; first | rwa [add_block] at this | exact this) GW351.out) | (rw [add_block]; exact Nat.ne_of_lt (Nat.lt_of_lt_of_le (by have := World.block_lt_of_cell? _ _ hw349_0; first | rwa [add_block] at this | exact this) GW351.out)) | (show (Addr.add _ _).block ≠ _; rw [add_block]; exact Nat.ne_of_lt (Nat.lt_of_lt_of_le (by have := World.block_lt_of_cell? _ _ hw349_0; first | rwa [add_block] at this | exact this) GW351.out)) | (dsimp only; exact Nat.ne_of_lt (Nat.lt_of_lt_of_le (by have := World.block_lt_of_cell? _ _ hw349_0; first | rwa [add_block] at this | exact this) GW351.out))) _).trans (((cell_far (p := ⟨gb351, _, none⟩) (by first | exact Nat.ne_of_lt (Nat.lt_of_lt_of_le (by have := World.block_lt_of_cell? _ _ hw349_0; first | rwa [add_block] at this | exact this) GW351.out) | (rw [add_block]; exact Nat.ne_of_lt (Nat.lt_of_lt_of_le (by have := World.block_lt_of_cell? _ _ hw349_0; first | rwa [add_block] at this | exact this) GW351.out)) | (show (Addr.add _ _).block ≠ _; rw [add_block]; exact Nat.ne_of_lt (Nat.lt_of_lt_of_le (by have := World.block_lt_of_cell? _ _ hw349_0; first | rwa [add_block] at this | exact this) GW351.out)) | (dsimp only; exact Nat.ne_of_lt (Nat.lt_of_lt_of_le (by have := World.block_lt_of_cell? _ _ hw349_0; first | rwa [add_block] at this | exact this) GW351.out))) _).trans (((cell_far (p := ⟨gb351, _, none⟩) (by first | exact Nat.ne_of_lt (Nat.lt_of_lt_of_le (by have := World.block_lt_of_cell? _ _ hw349_0; first | rwa [add_block] at this | exact this) GW351.out) | (rw [add_block]; exact Nat.ne_of_lt (Nat.lt_of_lt_of_le (by have := World.block_lt_of_cell? _ _ hw349_0; first | rwa [add_block] at this | exact this) GW351.out)) | (show (Addr.add _ _).block ≠ _; rw [add_block]; exact Nat.ne_of_lt (Nat.lt_of_lt_of_le (by have := World.block_lt_of_cell? _ _ hw349_0; first | rwa [add_block] at this | exact this) GW351.out)) | (dsimp only; exact Nat.ne_of_lt (Nat.lt_of_lt_of_le (by have := World.block_lt_of_cell? _ _ hw349_0; first | rwa [add_block] at this | exact this) GW351.out))) _).trans (((cell_far (p := ⟨gb351, _, none⟩) (by first | exact Nat.ne_of_lt (Nat.lt_of_lt_of_le (by have := World.block_lt_of_cell? _ _ hw349_0; first | rwa [add_block] at this | exact this) GW351.out) | (rw [add_block]; exact Nat.ne_of_lt (Nat.lt_of_lt_of_le (by have := World.block_lt_of_cell? _ _ hw349_0; first | rwa [add_block] at this | exact this) GW351.out)) | (show (Addr.add _ _).block ≠ _; rw [add_block]; exact Nat.ne_of_lt (Nat.lt_of_lt_of_le (by have := World.block_lt_of_cell? _ _ hw349_0; first | rwa [add_block] at this | exact this) GW351.out)) | (dsimp only; exact Nat.ne_of_lt (Nat.lt_of_lt_of_le (by have := World.block_lt_of_cell? _ _ hw349_0; first | rwa [add_block] at this | exact this) GW351.out))) _).trans (((cell_far (p := ⟨gb351, _, none⟩) (by first | exact Nat.ne_of_lt (Nat.lt_of_lt_of_le (by have := World.block_lt_of_cell? _ _ hw349_0; first | rwa [add_block] at this | exact this) GW351.out) | (rw [add_block]; exact Nat.ne_of_lt (Nat.lt_of_lt_of_le (by have := World.block_lt_of_cell? _ _ hw349_0; first | rwa [add_block] at this | exact this) GW351.out)) | (show (Addr.add _ _).block ≠ _; rw [add_block]; exact Nat.ne_of_lt (Nat.lt_of_lt_of_le (by have := World.block_lt_of_cell? _ _ hw349_0; first | rwa [add_block] at this | exact this) GW351.out)) | (dsimp only; exact Nat.ne_of_lt (Nat.lt_of_lt_of_le (by have := World.block_lt_of_cell? _ _ hw349_0; first | rwa [add_block] at this | exact this) GW351.out))) _).trans (((cell_far (p := ⟨gb351, _, none⟩) (by first | exact Nat.ne_of_lt (Nat.lt_of_lt_of_le (by have := World.block_lt_of_cell? _ _ hw349_0; first | rwa [add_block] at this | exact this) GW351.out) | (rw [add_block]; exact Nat.ne_of_lt (Nat.lt_of_lt_of_le (by have := World.block_lt_of_cell? _ _ hw349_0; first | rwa [add_block] at this | exact this) GW351.out)) | (show (Addr.add _ _).block ≠ _; rw [add_block]; exact Nat.ne_of_lt (Nat.lt_of_lt_of_le (by have := World.block_lt_of_cell? _ _ hw349_0; first | rwa [add_block] at this | exact this) GW351.out)) | (dsimp only; exact Nat.ne_of_lt (Nat.lt_of_lt_of_le (by have := World.block_lt_of_cell? _ _ hw349_0; first | rwa [add_block] at this | exact this) GW351.out))) _).trans (hHeld.2.2.2.2.2.2.1)))))))))))))))), ((cell_far (p := ⟨gb351, _, none⟩) (by first | exact Nat.ne_of_lt (Nat.lt_of_lt_of_le (by have := World.block_lt_of_cell? _ _ hw350_0; first | rwa [add_block] at this | exact this) GW351.out) | (rw [add_block]; exact Nat.ne_of_lt (Nat.lt_of_lt_of_le (by have := World.block_lt_of_cell? _ _ hw350_0; first | rwa [add_block] at this | exact this) GW351.out)) | (show (Addr.add _ _).block ≠ _; rw [add_block]; exact Nat.ne_of_lt (Nat.lt_of_lt_of_le (by have := World.block_lt_of_cell? _ _ hw350_0; first | rwa [add_block] at this | exact this) GW351.out)) | (dsimp only; exact Nat.ne_of_lt (Nat.lt_of_lt_of_le (by have := World.block_lt_of_cell? _ _ hw350_0; first | rwa [add_block] at this | exact this) GW351.out))) _).trans (((cell_far (p := ⟨gb351, _, none⟩) (by first | exact Nat.ne_of_lt (Nat.lt_of_lt_of_le (by have := World.block_lt_of_cell? _ _ hw350_0; first | rwa [add_block] at this | exact this) GW351.out) | (rw [add_block]; exact Nat.ne_of_lt (Nat.lt_of_lt_of_le (by have := World.block_lt_of_cell? _ _ hw350_0; first | rwa [add_block] at this | exact this) GW351.out)) | (show (Addr.add _ _).block ≠ _; rw [add_block]; exact Nat.ne_of_lt (Nat.lt_of_lt_of_le (by have := World.block_lt_of_cell? _ _ hw350_0; first | rwa [add_block] at this | exact this) GW351.out)) | (dsimp only; exact Nat.ne_of_lt (Nat.lt_of_lt_of_le (by have := World.block_lt_of_cell? _ _ hw350_0; first | rwa [add_block] at this | exact this) GW351.out))) _).trans (((cell_far (p := ⟨gb351, _, none⟩) (by first | exact Nat.ne_of_lt (Nat.lt_of_lt_of_le (by have := World.block_lt_of_cell? _ _ hw350_0; first | rwa [add_block] at this | exact this) GW351.out) | (rw [add_block]; exact Nat.ne_of_lt (Nat.lt_of_lt_of_le (by have := World.block_lt_of_cell? _ _ hw350_0; first | rwa [add_block] at this | exact this) GW351.out)) | (show (Addr.add _ _).block ≠ _; rw [add_block]; exact Nat.ne_of_lt (Nat.lt_of_lt_of_le (by have := World.block_lt_of_cell? _ _ hw350_0; first | rwa [add_block] at this | exact this) GW351.out)) | (dsimp only; exact Nat.ne_of_lt (Nat.lt_of_lt_of_le (by have := World.block_lt_of_cell? _ _ hw350_0; first | rwa [add_block] at this | exact this) GW351.out))) _).trans (((cell_far (p := ⟨gb351, _, none⟩) (by first | exact Nat.ne_of_lt (Nat.lt_of_lt_of_le (by have := World.block_lt_of_cell? _ _ hw350_0; first | rwa [add_block] at this | exact this) GW351.out) | (rw [add_block]; exact Nat.ne_of_lt (Nat.lt_of_lt_of_le (by have := World.block_lt_of_cell? _ _ hw350_0; first | rwa [add_block] at this | exact this) GW351.out)) | (show (Addr.add _ _).block ≠ _; rw [add_block]; exact Nat.ne_of_lt (Nat.lt_of_lt_of_le (by have := World.block_lt_of_cell? _ _ hw350_0; first | rwa [add_block] at this | exact this) GW351.out)) | (dsimp only; exact Nat.ne_of_lt (Nat.lt_of_lt_of_le (by have := World.block_lt_of_cell? _ _ hw350_0; first | rwa [add_block] at this | exact this) GW351.out))) _).trans (((cell_far (p := ⟨gb351, _, none⟩) (by first | exact Nat.ne_of_lt (Nat.lt_of_lt_of_le (by have := World.block_lt_of_cell? _ _ hw350_0; first | rwa [add_block] at this | exact this) GW351.out) | (rw [add_block]; exact Nat.ne_of_lt (Nat.lt_of_lt_of_le (by have := World.block_lt_of_cell? _ _ hw350_0; first | rwa [add_block] at this | exact this) GW351.out)) | (show (Addr.add _ _).block ≠ _; rw [add_block]; exact Nat.ne_of_lt (Nat.lt_of_lt_of_le (by have := World.block_lt_of_cell? _ _ hw350_0; first | rwa [add_block] at this | exact this) GW351.out)) | (dsimp only; exact Nat.ne_of_lt (Nat.lt_of_lt_of_le (by have := World.block_lt_of_cell? _ _ hw350_0; first | rwa [add_block] at this | exact this) GW351.out))) _).trans (((cell_far (p := ⟨gb351, _, none⟩) (by first | exact Nat.ne_of_lt (Nat.lt_of_lt_of_le (by have := World.block_lt_of_cell? _ _ hw350_0; first | rwa [add_block] at this | exact this) GW351.out) | (rw [add_block]; exact Nat.ne_of_lt (Nat.lt_of_lt_of_le (by have := World.block_lt_of_cell? _ _ hw350_0; first | rwa [add_block] at this | exact this) GW351.out)) | (show (Addr.add _ _).block ≠ _; rw [add_block]; exact Nat.ne_of_lt (Nat.lt_of_lt_of_le (by have := World.block_lt_of_cell? _ _ hw350_0; first | rwa [add_block] at this | exact this) GW351.out)) | (dsimp only; exact Nat.ne_of_lt (Nat.lt_of_lt_of_le (by have := World.block_lt_of_cell? _ _ hw350_0; first | rwa [add_block] at this | exact this) GW351.out))) _).trans (((cell_far (p := ⟨gb351, _, none⟩) (by first | exact Nat.ne_of_lt (Nat.lt_of_lt_of_le (by have := World.block_lt_of_cell? _ _ hw350_0; first | rwa [add_block] at this | exact this) GW351.out) | (rw [add_block]; exact Nat.ne_of_lt (Nat.lt_of_lt_of_le (by have := World.block_lt_of_cell? _ _ hw350_0; first | rwa [add_block] at this | exact this) GW351.out)) | (show (Addr.add _ _).block ≠ _; rw [add_block]; exact Nat.ne_of_lt (Nat.lt_of_lt_of_le (by have := World.block_lt_of_cell? _ _ hw350_0; first | rwa [add_block] at this | exact this) GW351.out)) | (dsimp only; exact Nat.ne_of_lt (Nat.lt_of_lt_of_le (by have := World.block_lt_of_cell? _ _ hw350_0; first | rwa [add_block] at this | exact this) GW351.out))) _).trans (((cell_far (p := ⟨gb351, _, none⟩) (by first | exact Nat.ne_of_lt (Nat.lt_of_lt_of_le (by have := World.block_lt_of_cell? _ _ hw350_0; first | rwa [add_block] at this | exact this) GW351.out) | (rw [add_block]; exact Nat.ne_of_lt (Nat.lt_of_lt_of_le (by have := World.block_lt_of_cell? _ _ hw350_0; first | rwa [add_block] at this | exact this) GW351.out)) | (show (Addr.add _ _).block ≠ _; rw [add_block]; exact Nat.ne_of_lt (Nat.lt_of_lt_of_le (by have := World.block_lt_of_cell? _ _ hw350_0; first | rwa [add_block] at this | exact this) GW351.out)) | (dsimp only; exact Nat.ne_of_lt (Nat.lt_of_lt_of_le (by have := World.block_lt_of_cell? _ _ hw350_0; first | rwa [add_block] at this | exact this) GW351.out))) _).trans (hHeld.2.2.2.2.2.2.2))))))))))))))))⟩ (fun hHeld => ?_)
           clear hK K
           refine done_ (done_of HT_.out (by kernel_rfl)) ?_
           obtain ⟨i028, hi028, _, hsz28, _⟩ := info_parts info5
           obtain ⟨A28, hcut28, hA28, hC28⟩ := print_drop_of (P := Try.prog) (Value.int .u8) 0 27 5 .i64 Try.underlying27 hi028 hsz28 (some ad339) c0 l0 8 (by omega) (of_decide_eq_true (by first | (with_reducible assumption) | assumption)) HC0.out
           have HR352 := Aside0.mk (Kd.C_of_reads (h1 := fun _ => rfl) (hA28 _ (Kd.reads_of_C HR0.out)))
           have HC352 := Aside0.mk hC28
           clear hA28 hC28 hi028 hsz28
           try go_wp2
           go_loopg [49] k (fun kq v49 w' => ∃ (x49_1 : Int) (x352006_1 : Int), v49 = .int .i64 x49_1 ∧ Aside0 (encode_Decode.l0 kq (l0.drop 8) ((l0.drop 8).length : Int) x49_1 (wrap64 (rd l0 0)) (wrap64 (rd l0 1)) t342 t344 t346 t348 x352006_1 (Go.bits .or .i64 (wrap64 ((wrap64 (rd l0 6)) * 256)) (wrap64 (rd l0 7))) = some (r1, r2, r3, r4, r5, r6, r7, r8, r9)) ∧ Aside0 (kq ≤ k) ∧ Aside0 (w'.heap[gb338]? = some (.cells #[.int .i64 0, .int .i64 0, .int .i64 0, .int .i64 0, .int .i64 0, .int .i64 0, .int .u64 0, .int .i64 0] 46 (0, 0))) ∧ Aside0 (w'.heap[gb351]? = some (.cells #[.int .i64 (wrap64 (rd l0 0)), .int .i64 (wrap64 (rd l0 1)), .int .i64 t342, .int .i64 t344, .int .i64 t346, .int .i64 t348, .int .u64 x352006_1, .int .i64 (Go.bits .or .i64 (wrap64 ((wrap64 (rd l0 6)) * 256)) (wrap64 (rd l0 7)))] 46 (0, 0))) ∧ Aside0 (Below w.heap.size w w'))
           case atStart => exact ⟨(0), (0), (by first | rfl | (simp; done) | (simp [*]; done)), H', ⟨Nat.le_refl _⟩, ⟨by (with_reducible repeat (first | refine blk_drewN ?_ _ | refine blk_drew ?_ | refine blk_alloc ?_ _)); refine blk_far ?_ NB338_351.out _; (with_reducible repeat (first | refine blk_drewN ?_ _ | refine blk_drew ?_ | refine blk_alloc ?_ _)); refine blk_far ?_ NB338_351.out _; (with_reducible repeat (first | refine blk_drewN ?_ _ | refine blk_drew ?_ | refine blk_alloc ?_ _)); refine blk_far ?_ NB338_351.out _; (with_reducible repeat (first | refine blk_drewN ?_ _ | refine blk_drew ?_ | refine blk_alloc ?_ _)); refine blk_far ?_ NB338_351.out _; (with_reducible repeat (first | refine blk_drewN ?_ _ | refine blk_drew ?_ | refine blk_alloc ?_ _)); refine blk_far ?_ NB338_351.out _; (with_reducible repeat (first | refine blk_drewN ?_ _ | refine blk_drew ?_ | refine blk_alloc ?_ _)); refine blk_far ?_ NB338_351.out _; (with_reducible repeat (first | refine blk_drewN ?_ _ | refine blk_drew ?_ | refine blk_alloc ?_ _)); refine blk_far ?_ NB338_351.out _; (with_reducible repeat (first | refine blk_drewN ?_ _ | refine blk_drew ?_ | refine blk_alloc ?_ _)); refine blk_far ?_ NB338_351.out _; (with_reducible repeat (first | refine blk_drewN ?_ _ | refine blk_drew ?_ | refine blk_alloc ?_ _)); exact BK338.out⟩, ⟨by (with_reducible repeat (first | refine blk_drewN ?_ _ | refine blk_drew ?_ | refine blk_alloc ?_ _)); refine blk_put (cs := #[.int .i64 (wrap64 (rd l0 0)), .int .i64 (wrap64 (rd l0 1)), .int .i64 t342, .int .i64 t344, .int .i64 t346, .int .i64 t348, .int .u64 0, .int .i64 0]) ?_ 7 _ rfl; (with_reducible repeat (first | refine blk_drewN ?_ _ | refine blk_drew ?_ | refine blk_alloc ?_ _)); refine blk_put (cs := #[.int .i64 (wrap64 (rd l0 0)), .int .i64 (wrap64 (rd l0 1)), .int .i64 t342, .int .i64 t344, .int .i64 t346, .int .i64 t348, .int .u64 0, .int .i64 0]) ?_ 6 _ rfl; (with_reducible repeat (first | refine blk_drewN ?_ _ | refine blk_drew ?_ | refine blk_alloc ?_ _)); refine blk_put (cs := #[.int .i64 (wrap64 (rd l0 0)), .int .i64 (wrap64 (rd l0 1)), .int .i64 t342, .int .i64 t344, .int .i64 t346, .int .i64 0, .int .u64 0, .int .i64 0]) ?_ 5 _ rfl; (with_reducible repeat (first | refine blk_drewN ?_ _ | refine blk_drew ?_ | refine blk_alloc ?_ _)); refine blk_put (cs := #[.int .i64 (wrap64 (rd l0 0)), .int .i64 (wrap64 (rd l0 1)), .int .i64 t342, .int .i64 t344, .int .i64 0, .int .i64 0, .int .u64 0, .int .i64 0]) ?_ 4 _ rfl; (with_reducible repeat (first | refine blk_drewN ?_ _ | refine blk_drew ?_ | refine blk_alloc ?_ _)); refine blk_put (cs := #[.int .i64 (wrap64 (rd l0 0)), .int .i64 (wrap64 (rd l0 1)), .int .i64 t342, .int .i64 0, .int .i64 0, .int .i64 0, .int .u64 0, .int .i64 0]) ?_ 3 _ rfl; (with_reducible repeat (first | refine blk_drewN ?_ _ | refine blk_drew ?_ | refine blk_alloc ?_ _)); refine blk_put (cs := #[.int .i64 (wrap64 (rd l0 0)), .int .i64 (wrap64 (rd l0 1)), .int .i64 0, .int .i64 0, .int .i64 0, .int .i64 0, .int .u64 0, .int .i64 0]) ?_ 2 _ rfl; (with_reducible repeat (first | refine blk_drewN ?_ _ | refine blk_drew ?_ | refine blk_alloc ?_ _)); refine blk_put (cs := #[.int .i64 (wrap64 (rd l0 0)), .int .i64 0, .int .i64 0, .int .i64 0, .int .i64 0, .int .i64 0, .int .u64 0, .int .i64 0]) ?_ 1 _ rfl; (with_reducible repeat (first | refine blk_drewN ?_ _ | refine blk_drew ?_ | refine blk_alloc ?_ _)); refine blk_put (cs := #[.int .i64 0, .int .i64 0, .int .i64 0, .int .i64 0, .int .i64 0, .int .i64 0, .int .u64 0, .int .i64 0]) ?_ 0 _ rfl; (with_reducible repeat (first | refine blk_drewN ?_ _ | refine blk_drew ?_ | refine blk_alloc ?_ _)); exact BK351.out⟩, ⟨by repeat (first | (with_reducible first | exact HB.out | apply below_alloc | apply pw_below_drewN | apply below_drew1 | refine below_set ?_ GE338.out | refine below_set ?_ GE351.out) | exact HB.out)⟩⟩
           case round =>
            clear H'
            try clear p2
            try clear c3
            try clear p6
            obtain ⟨x49_1, x352006_1, rfl, HA, HK1, BK338, BK351, HB⟩ := hrel
            cases gk with
            | zero => exact absurd HA.out (by simp [encode_Decode.l0])
            | succ k1 =>
             have H := HA.out
             clear HA
             simp only [encode_Decode.l0] at H
             by_cases c29 : x49_1 < ((l0.drop 8).length : Int)
             ·
              rw [if_pos c29] at H
              have c29b0 : decide (x49_1 < ((l0.drop 8).length : Int)) = true := decide_eq_true c29
              have c29b1 : decide (x49_1 < ((l0.length - 8 : Nat) : Int)) = true := by rw [← List.length_drop]; exact c29b0
              clear c29
              by_cases c30 : 0 ≤ x49_1
              ·
               rw [if_pos c30] at H
               have c30b0 : decide (0 ≤ x49_1) = true := decide_eq_true c30
               clear c30
               by_cases c31 : x49_1 < ((l0.drop 8).length : Int)
               ·
                rw [if_pos c31] at H
                have c31b0 : decide (x49_1 < ((l0.drop 8).length : Int)) = true := decide_eq_true c31
                have c31b1 : decide (x49_1 < ((l0.length - 8 : Nat) : Int)) = true := by rw [← List.length_drop]; exact c31b0
                clear c31
                have H' := Aside0.mk H
                clear H
                have p353 : 0 ≤ (x49_1 : Int) := of_decide_eq_true (by first | (with_reducible assumption) | assumption)
                have q353 : x49_1 < ((l0.drop 8).length : Int) := of_decide_eq_true (by first | (with_reducible assumption) | assumption)
                have q353b : (x49_1 < ((l0.length - 8 : Nat) : Int)) = True := by rw [← List.length_drop]; exact eq_true q353
                obtain ⟨ad353, e353, hx353_0⟩ := Kd.at_int HR352.out x49_1 p353 q353
                cases e353
                replace hx353_0 := (HB.out.cell (World.block_lt_of_cell? w _ hx353_0)).trans hx353_0
                replace p353 := eq_true p353
                replace q353 := eq_true q353
                have hnb32 := NB351_338.out
                have hnc32 := NB338_351.out
                have hcz33_0 : wr.cell? ⟨gb351, 0, none⟩ = some (.int .i64 (wrap64 (rd l0 0))) := (blk_cell BK351.out 0).trans rfl
                have hcz33_1 : wr.cell? ⟨gb351, 1, none⟩ = some (.int .i64 (wrap64 (rd l0 1))) := (blk_cell BK351.out 1).trans rfl
                have hcz33_2 : wr.cell? ⟨gb351, 2, none⟩ = some (.int .i64 t342) := (blk_cell BK351.out 2).trans rfl
                have hcz33_3 : wr.cell? ⟨gb351, 3, none⟩ = some (.int .i64 t344) := (blk_cell BK351.out 3).trans rfl
                have hcz33_4 : wr.cell? ⟨gb351, 4, none⟩ = some (.int .i64 t346) := (blk_cell BK351.out 4).trans rfl
                have hcz33_5 : wr.cell? ⟨gb351, 5, none⟩ = some (.int .i64 t348) := (blk_cell BK351.out 5).trans rfl
                have hcz33_6 : wr.cell? ⟨gb351, 6, none⟩ = some (.int .u64 x352006_1) := (blk_cell BK351.out 6).trans rfl
                have hcz33_7 : wr.cell? ⟨gb351, 7, none⟩ = some (.int .i64 (Go.bits .or .i64 (wrap64 ((wrap64 (rd l0 6)) * 256)) (wrap64 (rd l0 7)))) := (blk_cell BK351.out 7).trans rfl
                have hfz33_0 := blk_frozen BK351.out 0
                have hfz33_1 := blk_frozen BK351.out 1
                have hfz33_2 := blk_frozen BK351.out 2
                have hfz33_3 := blk_frozen BK351.out 3
                have hfz33_4 := blk_frozen BK351.out 4
                have hfz33_5 := blk_frozen BK351.out 5
                have hfz33_6 := blk_frozen BK351.out 6
                have hfz33_7 := blk_frozen BK351.out 7
                go_wp2
                go_roundg k1
                case measure => have := HK1.out; omega
                case rel => exact ⟨(wrap64 (x49_1 + 1)), (Go.bits .or .u64 (IntKind.u64.wrap (x352006_1 * 256)) (IntKind.u64.wrap (rd (l0.drop 8) x49_1))), (by first | rfl | (simp; done) | (simp [*]; done)), H', ⟨by have := HK1.out; omega⟩, ⟨by (with_reducible repeat (first | refine blk_drewN ?_ _ | refine blk_drew ?_ | refine blk_alloc ?_ _)); refine blk_far ?_ NB338_351.out _; (with_reducible repeat (first | refine blk_drewN ?_ _ | refine blk_drew ?_ | refine blk_alloc ?_ _)); exact BK338.out⟩, ⟨by (with_reducible repeat (first | refine blk_drewN ?_ _ | refine blk_drew ?_ | refine blk_alloc ?_ _)); refine blk_put (cs := #[.int .i64 (wrap64 (rd l0 0)), .int .i64 (wrap64 (rd l0 1)), .int .i64 t342, .int .i64 t344, .int .i64 t346, .int .i64 t348, .int .u64 x352006_1, .int .i64 (Go.bits .or .i64 (wrap64 ((wrap64 (rd l0 6)) * 256)) (wrap64 (rd l0 7)))]) ?_ 6 _ rfl; (with_reducible repeat (first | refine blk_drewN ?_ _ | refine blk_drew ?_ | refine blk_alloc ?_ _)); exact BK351.out⟩, ⟨by repeat (first | (with_reducible first | exact HB.out | apply below_alloc | apply pw_below_drewN | apply below_drew1 | refine below_set ?_ GE338.out | refine below_set ?_ GE351.out) | exact HB.out)⟩⟩
               ·
                rw [if_neg c31] at H
                exact absurd H (by simp)
              ·
               rw [if_neg c30] at H
               exact absurd H (by simp)
             ·
              rw [if_neg c29] at H
              have c29b0 : decide (x49_1 < ((l0.drop 8).length : Int)) = false := decide_eq_false c29
              have c29b1 : decide (x49_1 < ((l0.length - 8 : Nat) : Int)) = false := by rw [← List.length_drop]; exact c29b0
              clear c29
              replace H := Option.bind_eq_some_iff.mp H
              obtain ⟨t354, A340, H⟩ := H
              replace H : (if t354 = true then (some ((wrap64 (rd l0 0)), (wrap64 (rd l0 1)), t342, t344, t346, t348, x352006_1, (Go.bits .or .i64 (wrap64 ((wrap64 (rd l0 6)) * 256)) (wrap64 (rd l0 7))), true)) else (some (0, 0, 0, 0, 0, 0, 0, 0, false))) = some (r1, r2, r3, r4, r5, r6, r7, r8, r9) := H
              have A34 := Aside0.mk A340
              clear A340
              by_cases c35 : t354 = true
              ·
               subst c35
               have H1 : (some ((wrap64 (rd l0 0)), (wrap64 (rd l0 1)), t342, t344, t346, t348, x352006_1, (Go.bits .or .i64 (wrap64 ((wrap64 (rd l0 6)) * 256)) (wrap64 (rd l0 7))), true)) = some (r1, r2, r3, r4, r5, r6, r7, r8, r9) := by rw [if_pos rfl] at H; exact H
               clear H
               have H := H1
               clear H1
               simp only [Option.some.injEq, Prod.mk.injEq] at H
               obtain ⟨rfl, rfl, rfl, rfl, rfl, rfl, rfl, rfl, rfl⟩ := H
               have hnb36 := NB351_338.out
               have hnc36 := NB338_351.out
               have hcz37_0 : wr.cell? ⟨gb351, 0, none⟩ = some (.int .i64 (wrap64 (rd l0 0))) := (blk_cell BK351.out 0).trans rfl
               have hcz37_1 : wr.cell? ⟨gb351, 1, none⟩ = some (.int .i64 (wrap64 (rd l0 1))) := (blk_cell BK351.out 1).trans rfl
               have hcz37_2 : wr.cell? ⟨gb351, 2, none⟩ = some (.int .i64 t342) := (blk_cell BK351.out 2).trans rfl
               have hcz37_3 : wr.cell? ⟨gb351, 3, none⟩ = some (.int .i64 t344) := (blk_cell BK351.out 3).trans rfl
               have hcz37_4 : wr.cell? ⟨gb351, 4, none⟩ = some (.int .i64 t346) := (blk_cell BK351.out 4).trans rfl
               have hcz37_5 : wr.cell? ⟨gb351, 5, none⟩ = some (.int .i64 t348) := (blk_cell BK351.out 5).trans rfl
               have hcz37_6 : wr.cell? ⟨gb351, 6, none⟩ = some (.int .u64 x352006_1) := (blk_cell BK351.out 6).trans rfl
               have hcz37_7 : wr.cell? ⟨gb351, 7, none⟩ = some (.int .i64 (Go.bits .or .i64 (wrap64 ((wrap64 (rd l0 6)) * 256)) (wrap64 (rd l0 7)))) := (blk_cell BK351.out 7).trans rfl
               have hfz37_0 := blk_frozen BK351.out 0
               have hfz37_1 := blk_frozen BK351.out 1
               have hfz37_2 := blk_frozen BK351.out 2
               have hfz37_3 := blk_frozen BK351.out 3
               have hfz37_4 := blk_frozen BK351.out 4
               have hfz37_5 := blk_frozen BK351.out 5
               have hfz37_6 := blk_frozen BK351.out 6
               have hfz37_7 := blk_frozen BK351.out 7
               go_wp2_with (first | ((with_reducible refine gate_callee (f := 20) rfl ?_); refine goesL_ (some 62) rfl rfl Try.func20 (by kernel_rfl) rfl #[.agg #[.int .i64 (wrap64 (rd l0 0)), .int .i64 (wrap64 (rd l0 1)), .int .i64 t342, .int .i64 t344, .int .i64 t346, .int .i64 t348, .int .u64 x352006_1, .int .i64 (Go.bits .or .i64 (wrap64 ((wrap64 (rd l0 6)) * 256)) (wrap64 (rd l0 7)))]] rfl (by (try simp only [List.map_toArray, List.map_cons, List.map_nil]); first | done | rfl | (simp only [List.length_drop, List.length_take]; rfl)) ?_; (with_reducible refine (encode_May.calls k1 (wrap64 (rd l0 0)) (wrap64 (rd l0 1)) t342 t344 t346 t348 x352006_1 (Go.bits .or .i64 (wrap64 ((wrap64 (rd l0 6)) * 256)) (wrap64 (rd l0 7))) true _ A34.out).mono ?_); rintro e w38 ⟨rfl, hb⟩; refine ⟨_, rfl, ?_⟩; have n0_ := Aside0.mk (blk_below (g := gb338) (o := .cells #[.int .i64 0, .int .i64 0, .int .i64 0, .int .i64 0, .int .i64 0, .int .i64 0, .int .u64 0, .int .i64 0] 46 (0, 0)) (by (with_reducible repeat (first | refine blk_drewN ?_ _ | refine blk_drew ?_ | refine blk_alloc ?_ _)); exact BK338.out) hb); have n1_ := Aside0.mk (blk_below (g := gb351) (o := .cells #[.int .i64 (wrap64 (rd l0 0)), .int .i64 (wrap64 (rd l0 1)), .int .i64 t342, .int .i64 t344, .int .i64 t346, .int .i64 t348, .int .u64 x352006_1, .int .i64 (Go.bits .or .i64 (wrap64 ((wrap64 (rd l0 6)) * 256)) (wrap64 (rd l0 7)))] 46 (0, 0)) (by (with_reducible repeat (first | refine blk_drewN ?_ _ | refine blk_drew ?_ | refine blk_alloc ?_ _)); exact BK351.out) hb); have n2_ := Aside0.mk (below_step (by repeat (first | (with_reducible first | exact HB.out | apply below_alloc | apply pw_below_drewN | apply below_drew1 | refine below_set ?_ GE338.out | refine below_set ?_ GE351.out) | exact HB.out)) hb); clear BK338; clear BK351; clear HB; have BK338 := n0_; have BK351 := n1_; have HB := n2_; clear n0_ n1_ n2_; (try clear hb); (try clear hb2); (try clear hk); (try clear hi); have hcz39_0 : w38.cell? ⟨gb351, 0, none⟩ = some (.int .i64 (wrap64 (rd l0 0))) := (blk_cell BK351.out 0).trans rfl; have hcz39_1 : w38.cell? ⟨gb351, 1, none⟩ = some (.int .i64 (wrap64 (rd l0 1))) := (blk_cell BK351.out 1).trans rfl; have hcz39_2 : w38.cell? ⟨gb351, 2, none⟩ = some (.int .i64 t342) := (blk_cell BK351.out 2).trans rfl; have hcz39_3 : w38.cell? ⟨gb351, 3, none⟩ = some (.int .i64 t344) := (blk_cell BK351.out 3).trans rfl; have hcz39_4 : w38.cell? ⟨gb351, 4, none⟩ = some (.int .i64 t346) := (blk_cell BK351.out 4).trans rfl; have hcz39_5 : w38.cell? ⟨gb351, 5, none⟩ = some (.int .i64 t348) := (blk_cell BK351.out 5).trans rfl; have hcz39_6 : w38.cell? ⟨gb351, 6, none⟩ = some (.int .u64 x352006_1) := (blk_cell BK351.out 6).trans rfl; have hcz39_7 : w38.cell? ⟨gb351, 7, none⟩ = some (.int .i64 (Go.bits .or .i64 (wrap64 ((wrap64 (rd l0 6)) * 256)) (wrap64 (rd l0 7)))) := (blk_cell BK351.out 7).trans rfl; have hfz39_0 := blk_frozen BK351.out 0; have hfz39_1 := blk_frozen BK351.out 1; have hfz39_2 := blk_frozen BK351.out 2; have hfz39_3 := blk_frozen BK351.out 3; have hfz39_4 := blk_frozen BK351.out 4; have hfz39_5 := blk_frozen BK351.out 5; have hfz39_6 := blk_frozen BK351.out 6; have hfz39_7 := blk_frozen BK351.out 7; have hcz40_0 : w38.cell? ⟨gb338, 0, none⟩ = some (.int .i64 0) := (blk_cell BK338.out 0).trans rfl; have hcz40_1 : w38.cell? ⟨gb338, 1, none⟩ = some (.int .i64 0) := (blk_cell BK338.out 1).trans rfl; have hcz40_2 : w38.cell? ⟨gb338, 2, none⟩ = some (.int .i64 0) := (blk_cell BK338.out 2).trans rfl; have hcz40_3 : w38.cell? ⟨gb338, 3, none⟩ = some (.int .i64 0) := (blk_cell BK338.out 3).trans rfl; have hcz40_4 : w38.cell? ⟨gb338, 4, none⟩ = some (.int .i64 0) := (blk_cell BK338.out 4).trans rfl; have hcz40_5 : w38.cell? ⟨gb338, 5, none⟩ = some (.int .i64 0) := (blk_cell BK338.out 5).trans rfl; have hcz40_6 : w38.cell? ⟨gb338, 6, none⟩ = some (.int .u64 0) := (blk_cell BK338.out 6).trans rfl; have hcz40_7 : w38.cell? ⟨gb338, 7, none⟩ = some (.int .i64 0) := (blk_cell BK338.out 7).trans rfl; have hfz40_0 := blk_frozen BK338.out 0; have hfz40_1 := blk_frozen BK338.out 1; have hfz40_2 := blk_frozen BK338.out 2; have hfz40_3 := blk_frozen BK338.out 3; have hfz40_4 := blk_frozen BK338.out 4; have hfz40_5 := blk_frozen BK338.out 5; have hfz40_6 := blk_frozen BK338.out 6; have hfz40_7 := blk_frozen BK338.out 7))
               refine bodyPost_ret (results_ct rfl _ _ gb338 46 #[.int .i64 (wrap64 (rd l0 0)), .int .i64 (wrap64 (rd l0 1)), .int .i64 t342, .int .i64 t344, .int .i64 t346, .int .i64 t348, .int .u64 x352006_1, .int .i64 (Go.bits .or .i64 (wrap64 ((wrap64 (rd l0 6)) * 256)) (wrap64 (rd l0 7)))] (0, 0) _ rfl (by (with_reducible repeat (first | refine blk_drewN ?_ _ | refine blk_drew ?_ | refine blk_alloc ?_ _)); refine blk_put (cs := #[.int .i64 (wrap64 (rd l0 0)), .int .i64 (wrap64 (rd l0 1)), .int .i64 t342, .int .i64 t344, .int .i64 t346, .int .i64 t348, .int .u64 x352006_1, .int .i64 0]) ?_ 7 _ rfl; (with_reducible repeat (first | refine blk_drewN ?_ _ | refine blk_drew ?_ | refine blk_alloc ?_ _)); refine blk_put (cs := #[.int .i64 (wrap64 (rd l0 0)), .int .i64 (wrap64 (rd l0 1)), .int .i64 t342, .int .i64 t344, .int .i64 t346, .int .i64 t348, .int .u64 0, .int .i64 0]) ?_ 6 _ rfl; (with_reducible repeat (first | refine blk_drewN ?_ _ | refine blk_drew ?_ | refine blk_alloc ?_ _)); refine blk_put (cs := #[.int .i64 (wrap64 (rd l0 0)), .int .i64 (wrap64 (rd l0 1)), .int .i64 t342, .int .i64 t344, .int .i64 t346, .int .i64 0, .int .u64 0, .int .i64 0]) ?_ 5 _ rfl; (with_reducible repeat (first | refine blk_drewN ?_ _ | refine blk_drew ?_ | refine blk_alloc ?_ _)); refine blk_put (cs := #[.int .i64 (wrap64 (rd l0 0)), .int .i64 (wrap64 (rd l0 1)), .int .i64 t342, .int .i64 t344, .int .i64 0, .int .i64 0, .int .u64 0, .int .i64 0]) ?_ 4 _ rfl; (with_reducible repeat (first | refine blk_drewN ?_ _ | refine blk_drew ?_ | refine blk_alloc ?_ _)); refine blk_put (cs := #[.int .i64 (wrap64 (rd l0 0)), .int .i64 (wrap64 (rd l0 1)), .int .i64 t342, .int .i64 0, .int .i64 0, .int .i64 0, .int .u64 0, .int .i64 0]) ?_ 3 _ rfl; (with_reducible repeat (first | refine blk_drewN ?_ _ | refine blk_drew ?_ | refine blk_alloc ?_ _)); refine blk_put (cs := #[.int .i64 (wrap64 (rd l0 0)), .int .i64 (wrap64 (rd l0 1)), .int .i64 0, .int .i64 0, .int .i64 0, .int .i64 0, .int .u64 0, .int .i64 0]) ?_ 2 _ rfl; (with_reducible repeat (first | refine blk_drewN ?_ _ | refine blk_drew ?_ | refine blk_alloc ?_ _)); refine blk_put (cs := #[.int .i64 (wrap64 (rd l0 0)), .int .i64 0, .int .i64 0, .int .i64 0, .int .i64 0, .int .i64 0, .int .u64 0, .int .i64 0]) ?_ 1 _ rfl; (with_reducible repeat (first | refine blk_drewN ?_ _ | refine blk_drew ?_ | refine blk_alloc ?_ _)); refine blk_put (cs := #[.int .i64 0, .int .i64 0, .int .i64 0, .int .i64 0, .int .i64 0, .int .i64 0, .int .u64 0, .int .i64 0]) ?_ 0 _ rfl; (with_reducible repeat (first | refine blk_drewN ?_ _ | refine blk_drew ?_ | refine blk_alloc ?_ _)); exact BK338.out) Try.underlying46 rfl (by kernel_rfl)) rfl ?_
               exact ⟨by first | rfl | (simp [errW_none, errW_some] <;> rfl) | (simp [*, errW_none, errW_some] <;> rfl), by repeat (first | (with_reducible first | exact HB.out | apply below_alloc | apply pw_below_drewN | apply below_drew1 | refine below_set ?_ GE338.out | refine below_set ?_ GE351.out) | exact HB.out)⟩
              ·
               replace c35 := Bool.eq_false_iff.mpr c35
               subst c35
               have H1 : (some (0, 0, 0, 0, 0, 0, 0, 0, false)) = some (r1, r2, r3, r4, r5, r6, r7, r8, r9) := by rw [if_neg (show ¬ (false = true) by decide)] at H; exact H
               clear H
               have H := H1
               clear H1
               simp only [Option.some.injEq, Prod.mk.injEq] at H
               obtain ⟨rfl, rfl, rfl, rfl, rfl, rfl, rfl, rfl, rfl⟩ := H
               have hnb41 := NB351_338.out
               have hnc41 := NB338_351.out
               have hcz42_0 : wr.cell? ⟨gb351, 0, none⟩ = some (.int .i64 (wrap64 (rd l0 0))) := (blk_cell BK351.out 0).trans rfl
               have hcz42_1 : wr.cell? ⟨gb351, 1, none⟩ = some (.int .i64 (wrap64 (rd l0 1))) := (blk_cell BK351.out 1).trans rfl
               have hcz42_2 : wr.cell? ⟨gb351, 2, none⟩ = some (.int .i64 t342) := (blk_cell BK351.out 2).trans rfl
               have hcz42_3 : wr.cell? ⟨gb351, 3, none⟩ = some (.int .i64 t344) := (blk_cell BK351.out 3).trans rfl
               have hcz42_4 : wr.cell? ⟨gb351, 4, none⟩ = some (.int .i64 t346) := (blk_cell BK351.out 4).trans rfl
               have hcz42_5 : wr.cell? ⟨gb351, 5, none⟩ = some (.int .i64 t348) := (blk_cell BK351.out 5).trans rfl
               have hcz42_6 : wr.cell? ⟨gb351, 6, none⟩ = some (.int .u64 x352006_1) := (blk_cell BK351.out 6).trans rfl
               have hcz42_7 : wr.cell? ⟨gb351, 7, none⟩ = some (.int .i64 (Go.bits .or .i64 (wrap64 ((wrap64 (rd l0 6)) * 256)) (wrap64 (rd l0 7)))) := (blk_cell BK351.out 7).trans rfl
               have hfz42_0 := blk_frozen BK351.out 0
               have hfz42_1 := blk_frozen BK351.out 1
               have hfz42_2 := blk_frozen BK351.out 2
               have hfz42_3 := blk_frozen BK351.out 3
               have hfz42_4 := blk_frozen BK351.out 4
               have hfz42_5 := blk_frozen BK351.out 5
               have hfz42_6 := blk_frozen BK351.out 6
               have hfz42_7 := blk_frozen BK351.out 7
               go_wp2_with (first | ((with_reducible refine gate_callee (f := 20) rfl ?_); refine goesL_ (some 62) rfl rfl Try.func20 (by kernel_rfl) rfl #[.agg #[.int .i64 (wrap64 (rd l0 0)), .int .i64 (wrap64 (rd l0 1)), .int .i64 t342, .int .i64 t344, .int .i64 t346, .int .i64 t348, .int .u64 x352006_1, .int .i64 (Go.bits .or .i64 (wrap64 ((wrap64 (rd l0 6)) * 256)) (wrap64 (rd l0 7)))]] rfl (by (try simp only [List.map_toArray, List.map_cons, List.map_nil]); first | done | rfl | (simp only [List.length_drop, List.length_take]; rfl)) ?_; (with_reducible refine (encode_May.calls k1 (wrap64 (rd l0 0)) (wrap64 (rd l0 1)) t342 t344 t346 t348 x352006_1 (Go.bits .or .i64 (wrap64 ((wrap64 (rd l0 6)) * 256)) (wrap64 (rd l0 7))) false _ A34.out).mono ?_); rintro e w43 ⟨rfl, hb⟩; refine ⟨_, rfl, ?_⟩; have n0_ := Aside0.mk (blk_below (g := gb338) (o := .cells #[.int .i64 0, .int .i64 0, .int .i64 0, .int .i64 0, .int .i64 0, .int .i64 0, .int .u64 0, .int .i64 0] 46 (0, 0)) (by (with_reducible repeat (first | refine blk_drewN ?_ _ | refine blk_drew ?_ | refine blk_alloc ?_ _)); exact BK338.out) hb); have n1_ := Aside0.mk (blk_below (g := gb351) (o := .cells #[.int .i64 (wrap64 (rd l0 0)), .int .i64 (wrap64 (rd l0 1)), .int .i64 t342, .int .i64 t344, .int .i64 t346, .int .i64 t348, .int .u64 x352006_1, .int .i64 (Go.bits .or .i64 (wrap64 ((wrap64 (rd l0 6)) * 256)) (wrap64 (rd l0 7)))] 46 (0, 0)) (by (with_reducible repeat (first | refine blk_drewN ?_ _ | refine blk_drew ?_ | refine blk_alloc ?_ _)); exact BK351.out) hb); have n2_ := Aside0.mk (below_step (by repeat (first | (with_reducible first | exact HB.out | apply below_alloc | apply pw_below_drewN | apply below_drew1 | refine below_set ?_ GE338.out | refine below_set ?_ GE351.out) | exact HB.out)) hb); clear BK338; clear BK351; clear HB; have BK338 := n0_; have BK351 := n1_; have HB := n2_; clear n0_ n1_ n2_; (try clear hb); (try clear hb2); (try clear hk); (try clear hi); have hcz44_0 : w43.cell? ⟨gb338, 0, none⟩ = some (.int .i64 0) := (blk_cell BK338.out 0).trans rfl; have hcz44_1 : w43.cell? ⟨gb338, 1, none⟩ = some (.int .i64 0) := (blk_cell BK338.out 1).trans rfl; have hcz44_2 : w43.cell? ⟨gb338, 2, none⟩ = some (.int .i64 0) := (blk_cell BK338.out 2).trans rfl; have hcz44_3 : w43.cell? ⟨gb338, 3, none⟩ = some (.int .i64 0) := (blk_cell BK338.out 3).trans rfl; have hcz44_4 : w43.cell? ⟨gb338, 4, none⟩ = some (.int .i64 0) := (blk_cell BK338.out 4).trans rfl; have hcz44_5 : w43.cell? ⟨gb338, 5, none⟩ = some (.int .i64 0) := (blk_cell BK338.out 5).trans rfl; have hcz44_6 : w43.cell? ⟨gb338, 6, none⟩ = some (.int .u64 0) := (blk_cell BK338.out 6).trans rfl; have hcz44_7 : w43.cell? ⟨gb338, 7, none⟩ = some (.int .i64 0) := (blk_cell BK338.out 7).trans rfl; have hfz44_0 := blk_frozen BK338.out 0; have hfz44_1 := blk_frozen BK338.out 1; have hfz44_2 := blk_frozen BK338.out 2; have hfz44_3 := blk_frozen BK338.out 3; have hfz44_4 := blk_frozen BK338.out 4; have hfz44_5 := blk_frozen BK338.out 5; have hfz44_6 := blk_frozen BK338.out 6; have hfz44_7 := blk_frozen BK338.out 7))
               refine bodyPost_ret (results_ct rfl _ _ gb338 46 #[.int .i64 0, .int .i64 0, .int .i64 0, .int .i64 0, .int .i64 0, .int .i64 0, .int .u64 0, .int .i64 0] (0, 0) _ rfl (by (with_reducible repeat (first | refine blk_drewN ?_ _ | refine blk_drew ?_ | refine blk_alloc ?_ _)); refine blk_put (cs := #[.int .i64 0, .int .i64 0, .int .i64 0, .int .i64 0, .int .i64 0, .int .i64 0, .int .u64 0, .int .i64 0]) ?_ 7 _ rfl; (with_reducible repeat (first | refine blk_drewN ?_ _ | refine blk_drew ?_ | refine blk_alloc ?_ _)); refine blk_put (cs := #[.int .i64 0, .int .i64 0, .int .i64 0, .int .i64 0, .int .i64 0, .int .i64 0, .int .u64 0, .int .i64 0]) ?_ 6 _ rfl; (with_reducible repeat (first | refine blk_drewN ?_ _ | refine blk_drew ?_ | refine blk_alloc ?_ _)); refine blk_put (cs := #[.int .i64 0, .int .i64 0, .int .i64 0, .int .i64 0, .int .i64 0, .int .i64 0, .int .u64 0, .int .i64 0]) ?_ 5 _ rfl; (with_reducible repeat (first | refine blk_drewN ?_ _ | refine blk_drew ?_ | refine blk_alloc ?_ _)); refine blk_put (cs := #[.int .i64 0, .int .i64 0, .int .i64 0, .int .i64 0, .int .i64 0, .int .i64 0, .int .u64 0, .int .i64 0]) ?_ 4 _ rfl; (with_reducible repeat (first | refine blk_drewN ?_ _ | refine blk_drew ?_ | refine blk_alloc ?_ _)); refine blk_put (cs := #[.int .i64 0, .int .i64 0, .int .i64 0, .int .i64 0, .int .i64 0, .int .i64 0, .int .u64 0, .int .i64 0]) ?_ 3 _ rfl; (with_reducible repeat (first | refine blk_drewN ?_ _ | refine blk_drew ?_ | refine blk_alloc ?_ _)); refine blk_put (cs := #[.int .i64 0, .int .i64 0, .int .i64 0, .int .i64 0, .int .i64 0, .int .i64 0, .int .u64 0, .int .i64 0]) ?_ 2 _ rfl; (with_reducible repeat (first | refine blk_drewN ?_ _ | refine blk_drew ?_ | refine blk_alloc ?_ _)); refine blk_put (cs := #[.int .i64 0, .int .i64 0, .int .i64 0, .int .i64 0, .int .i64 0, .int .i64 0, .int .u64 0, .int .i64 0]) ?_ 1 _ rfl; (with_reducible repeat (first | refine blk_drewN ?_ _ | refine blk_drew ?_ | refine blk_alloc ?_ _)); refine blk_put (cs := #[.int .i64 0, .int .i64 0, .int .i64 0, .int .i64 0, .int .i64 0, .int .i64 0, .int .u64 0, .int .i64 0]) ?_ 0 _ rfl; (with_reducible repeat (first | refine blk_drewN ?_ _ | refine blk_drew ?_ | refine blk_alloc ?_ _)); exact BK338.out) Try.underlying46 rfl (by kernel_rfl)) rfl ?_
               exact ⟨by first | rfl | (simp [errW_none, errW_some] <;> rfl) | (simp [*, errW_none, errW_some] <;> rfl), by repeat (first | (with_reducible first | exact HB.out | apply below_alloc | apply pw_below_drewN | apply below_drew1 | refine below_set ?_ GE338.out | refine below_set ?_ GE351.out) | exact HB.out)⟩
          ·
           rw [if_neg c15] at H
           exact absurd H (by simp)
         ·
          rw [if_neg c14] at H
          exact absurd H (by simp)
        ·
         rw [if_neg c13] at H
         exact absurd H (by simp)
       ·
        rw [if_neg c11] at H
        exact absurd H (by simp)
      ·
       rw [if_neg c9] at H
       exact absurd H (by simp)
     ·
      rw [if_neg c7] at H
      exact absurd H (by simp)
    ·
     rw [if_neg c5] at H
     exact absurd H (by simp)
   ·
    rw [if_neg c4] at H
    exact absurd H (by simp)
  ·
   rw [if_neg c3] at H
   exact absurd H (by simp)
 ·
  rw [if_neg c2] at H
  have c2b0 : ((l0.length : Int) == 16) = false := beq_eq_false_iff_ne.mpr c2
  have c2b1 : ((l0.length : Int) != 16) = true := bne_iff_ne.mpr c2
  simp only [Option.some.injEq, Prod.mk.injEq] at H
  obtain ⟨rfl, rfl, rfl, rfl, rfl, rfl, rfl, rfl, rfl⟩ := H
  go_enter Try.func34, Try.ntmps34
  go_wp2_with (first | ((with_reducible refine gate_dst (N := 2) rfl ?_); refine box_event ?hg (N := 2) ?hd (cs := #[.int .i64 0, .int .i64 0, .int .i64 0, .int .i64 0, .int .i64 0, .int .i64 0, .int .u64 0, .int .i64 0]) (t := 46) ?hr ?_; (case hd => rfl); (case hg => rfl); (case hr => first | (go_simp; done) | (go_simp; rfl)); intro gb338 hg w45 hbox hb; have n0_ := Aside0.mk (below_step (by repeat (first | (with_reducible first | exact HB.out | apply below_alloc | apply pw_below_drewN | apply below_drew1) | exact HB.out)) hb); have n1_ := Aside0.mk (hbox); have n2_ := Aside0.mk ((by rw [hg]; exact (below_size (by repeat (first | (with_reducible first | exact HB.out | apply below_alloc | apply pw_below_drewN | apply below_drew1) | exact HB.out))) : w.heap.size ≤ gb338)); have n3_ := Aside0.mk ((by rw [hg]; exact (below_size (by repeat (first | (with_reducible first | exact HB.out | apply below_alloc | apply pw_below_drewN | apply below_drew1) | exact HB.out))) : w.heap.size ≤ gb338)); clear HB; have HB := n0_; have BK338 := n1_; have GW338 := n2_; have GE338 := n3_; clear n0_ n1_ n2_ n3_; clear hb hbox hg; have hcz46_0 : w45.cell? ⟨gb338, 0, none⟩ = some (.int .i64 0) := (blk_cell BK338.out 0).trans rfl; have hcz46_1 : w45.cell? ⟨gb338, 1, none⟩ = some (.int .i64 0) := (blk_cell BK338.out 1).trans rfl; have hcz46_2 : w45.cell? ⟨gb338, 2, none⟩ = some (.int .i64 0) := (blk_cell BK338.out 2).trans rfl; have hcz46_3 : w45.cell? ⟨gb338, 3, none⟩ = some (.int .i64 0) := (blk_cell BK338.out 3).trans rfl; have hcz46_4 : w45.cell? ⟨gb338, 4, none⟩ = some (.int .i64 0) := (blk_cell BK338.out 4).trans rfl; have hcz46_5 : w45.cell? ⟨gb338, 5, none⟩ = some (.int .i64 0) := (blk_cell BK338.out 5).trans rfl; have hcz46_6 : w45.cell? ⟨gb338, 6, none⟩ = some (.int .u64 0) := (blk_cell BK338.out 6).trans rfl; have hcz46_7 : w45.cell? ⟨gb338, 7, none⟩ = some (.int .i64 0) := (blk_cell BK338.out 7).trans rfl; have hfz46_0 := blk_frozen BK338.out 0; have hfz46_1 := blk_frozen BK338.out 1; have hfz46_2 := blk_frozen BK338.out 2; have hfz46_3 := blk_frozen BK338.out 3; have hfz46_4 := blk_frozen BK338.out 4; have hfz46_5 := blk_frozen BK338.out 5; have hfz46_6 := blk_frozen BK338.out 6; have hfz46_7 := blk_frozen BK338.out 7))
  refine bodyPost_ret (results_ct rfl _ _ gb338 46 #[.int .i64 0, .int .i64 0, .int .i64 0, .int .i64 0, .int .i64 0, .int .i64 0, .int .u64 0, .int .i64 0] (0, 0) _ rfl (by (with_reducible repeat (first | refine blk_drewN ?_ _ | refine blk_drew ?_ | refine blk_alloc ?_ _)); refine blk_put (cs := #[.int .i64 0, .int .i64 0, .int .i64 0, .int .i64 0, .int .i64 0, .int .i64 0, .int .u64 0, .int .i64 0]) ?_ 7 _ rfl; (with_reducible repeat (first | refine blk_drewN ?_ _ | refine blk_drew ?_ | refine blk_alloc ?_ _)); refine blk_put (cs := #[.int .i64 0, .int .i64 0, .int .i64 0, .int .i64 0, .int .i64 0, .int .i64 0, .int .u64 0, .int .i64 0]) ?_ 6 _ rfl; (with_reducible repeat (first | refine blk_drewN ?_ _ | refine blk_drew ?_ | refine blk_alloc ?_ _)); refine blk_put (cs := #[.int .i64 0, .int .i64 0, .int .i64 0, .int .i64 0, .int .i64 0, .int .i64 0, .int .u64 0, .int .i64 0]) ?_ 5 _ rfl; (with_reducible repeat (first | refine blk_drewN ?_ _ | refine blk_drew ?_ | refine blk_alloc ?_ _)); refine blk_put (cs := #[.int .i64 0, .int .i64 0, .int .i64 0, .int .i64 0, .int .i64 0, .int .i64 0, .int .u64 0, .int .i64 0]) ?_ 4 _ rfl; (with_reducible repeat (first | refine blk_drewN ?_ _ | refine blk_drew ?_ | refine blk_alloc ?_ _)); refine blk_put (cs := #[.int .i64 0, .int .i64 0, .int .i64 0, .int .i64 0, .int .i64 0, .int .i64 0, .int .u64 0, .int .i64 0]) ?_ 3 _ rfl; (with_reducible repeat (first | refine blk_drewN ?_ _ | refine blk_drew ?_ | refine blk_alloc ?_ _)); refine blk_put (cs := #[.int .i64 0, .int .i64 0, .int .i64 0, .int .i64 0, .int .i64 0, .int .i64 0, .int .u64 0, .int .i64 0]) ?_ 2 _ rfl; (with_reducible repeat (first | refine blk_drewN ?_ _ | refine blk_drew ?_ | refine blk_alloc ?_ _)); refine blk_put (cs := #[.int .i64 0, .int .i64 0, .int .i64 0, .int .i64 0, .int .i64 0, .int .i64 0, .int .u64 0, .int .i64 0]) ?_ 1 _ rfl; (with_reducible repeat (first | refine blk_drewN ?_ _ | refine blk_drew ?_ | refine blk_alloc ?_ _)); refine blk_put (cs := #[.int .i64 0, .int .i64 0, .int .i64 0, .int .i64 0, .int .i64 0, .int .i64 0, .int .u64 0, .int .i64 0]) ?_ 0 _ rfl; (with_reducible repeat (first | refine blk_drewN ?_ _ | refine blk_drew ?_ | refine blk_alloc ?_ _)); exact BK338.out) Try.underlying46 rfl (by kernel_rfl)) rfl ?_
  exact ⟨by first | rfl | (simp [errW_none, errW_some] <;> rfl) | (simp [*, errW_none, errW_some] <;> rfl), by repeat (first | (with_reducible first | exact HB.out | apply below_alloc | apply pw_below_drewN | apply below_drew1 | refine below_set ?_ GE338.out) | exact HB.out)⟩

end Go.Proofs.Yteajbeajkplplaa.PImageBytes
