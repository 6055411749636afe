/-
The law's may of an image that may be, walked by hand, by the printed contracts of the functions that it calls. Conditions: as each theorem states them.
-/
import Derived.Test.YteajbeajkplplaaPureImA
import Derived.Test.YteajbeajkplplaaRows
import Derived.Test.YteajbeajkplplaaOpens
import Derived.WalkKit
import Derived.ProofKit
import Derived.OpenShut
import Derived.ShutString
import Derived.ChangeOld
import Derived.Below
import Derived.SizedLaws
import Derived.Lib.SmallJoins
set_option linter.unusedSimpArgs false
set_option linter.unusedVariables false
namespace Go.Proofs.Yteajbeajkplplaa.Pure
open Go.RowKit Go.Proofs.YteajbeajkplplaaW.PrintWords Go.Proofs.YteajbeajkplplaaW.PrintLast Go.Proofs.YteajbeajkplplaaW.PrintMore Go.Proofs.Yteajbeajkplplaa.Kit
open Go.Proofs.Yteajbeajkplplaa.PImageBytes
attribute [local go_sem] max2_int min2_int max_two min_two max_three min_three max_four min_four   -- for this text's walks alone
set_option maxHeartbeats 4000000 in
set_option maxRecDepth 100000 in
theorem lmayT.calls (s c : Int) (A : Option Addr) (cA : Nat) (L : List (List S46)) (w : World) (hC : Kd.C (Kd.slice 46 k46) w A L.length L) (hle : L.length ≤ cA) (h : imS s c L) (hu : ∀ t ∈ L, ∀ x ∈ t, U64 x) :
  Calls Try.prog 11 #[.agg #[.int .i64 s, .int .i64 c, .slice A L.length cA]] w fun e w' => e = .returned (.bool true) ∧ Below w.heap.size w w' := by
 obtain ⟨h0, h1, h2, h3, h4⟩ := h
 replace h4 := Aside0.mk h4
 replace hu := Aside0.mk hu
 go_enter Try.func11, Try.ntmps11
 go_upto_region 1 with go_in
 have e1 := heap_alloc_new w (Obj.cells #[.int .i64 s, .int .i64 c, .slice A L.length cA] 25 (0, 0))
 have HB : Below w.heap.size w (w.alloc (Obj.cells #[.int .i64 s, .int .i64 c, .slice A L.length cA] 25 (0, 0))) := (Below.refl _ _).alloc (Nat.le_refl _) _
 generalize w.alloc (Obj.cells #[.int .i64 s, .int .i64 c, .slice A L.length cA] 25 (0, 0)) = w1 at e1 HB ⊢
 obtain ⟨B1, hB1⟩ : ∃ B, B = w.heap.size := ⟨_, rfl⟩
 rw [← hB1] at e1 ⊢
 replace hB1 := Aside0.mk hB1
 have x10 := blk_cell e1 0
 have x11 := blk_cell e1 1
 have x12 := blk_cell e1 2
 go_upto_region 4 with go_in
 clear x10 x11 x12
 go_loopw [32] (fun v32 wr => ∃ q : Nat, v32 = .int .i64 q ∧ q ≤ L.length ∧ wr.heap[B1]? = some (Obj.cells #[.int .i64 s, .int .i64 c, .slice A L.length cA] 25 (0, 0)) ∧ Below w.heap.size w wr) (fun v32 _ => L.length - (intOf v32).toNat)
 case atStart => exact ⟨0, rfl, by omega, e1, HB⟩
 case round =>
  clear e1 HB
  obtain ⟨q, rfl, hq, e1, HB⟩ := hrel
  by_cases hqn : q < L.length
  ·
   obtain ⟨ad, AT, cT, eT, hxT, hlT, hCT⟩ := at_L3 hC q (by omega) (by omega)
   cases eT
   have HXT := (HB.cell (World.block_lt_of_cell? w _ hxT)).trans hxT
   rw [Int.toNat_natCast] at HXT
   rw [rdL_at L q hqn] at HXT hlT hCT
   obtain ⟨t, ht⟩ : ∃ t, t = L[q] := ⟨_, rfl⟩
   rw [← ht] at HXT hlT hCT
   have htm : t ∈ L := by rw [ht]; exact List.getElem_mem hqn
   have hts := h4.out t htm
   replace ht := Aside0.mk ht
   have hqi : (q : Int) < (L.length : Int) := by omega
   have htl : t.length ≤ 9223372036854775807 := by have := hts.1.2.1; omega
   obtain ⟨kg, hkg⟩ : ∃ k, code_Good.f k t = some true := by
    have := good_ev t htl
    rw [decide_eq_true hts.1] at this
    exact Ev.rounds this
   replace hts := Aside0.mk hts
   replace htm := Aside0.mk htm
   have TG := code_Good.calls kg AT cT t true wr (Kd.C_below hCT HB) hlT hkg
   replace hkg := Aside0.mk hkg
   go_upto_region 9 with (first
    | (go_at_call 19; go_loud (refine TG.mono ?_; rintro e w2 ⟨rfl, hb1⟩; have e1 := blk_below e1 hb1; have HB := HB.trans (hb1.mono HB.size)))
    | go_in)
   clear TG HXT hxT
   go_loopw [41] (fun v41 wr => ∃ j : Nat, v41 = .int .i64 j ∧ j ≤ t.length ∧ wr.heap[B1]? = some (Obj.cells #[.int .i64 s, .int .i64 c, .slice (some ad) L.length cA] 25 (0, 0)) ∧ Below w.heap.size w wr) (fun v41 _ => t.length - (intOf v41).toNat)
   case atStart => exact ⟨0, rfl, by omega, e1, HB⟩
   case round =>
    clear e1 HB hb1
    obtain ⟨j, rfl, hj, e1, HB⟩ := hrel
    by_cases hjn : j < t.length
    ·
     obtain ⟨ad2, eA2, x0, x1, x2, x3, x4, x5, x6, x7⟩ := at_T46 hCT j (by omega) (by omega)
     subst eA2
     rw [rdT_at t j hjn, Int.toNat_natCast] at x0 x1 x2 x3 x4 x5 x6 x7
     obtain ⟨x, hx⟩ : ∃ x, x = t[j] := ⟨_, rfl⟩
     rw [← hx] at x0 x1 x2 x3 x4 x5 x6 x7
     have hxm : x ∈ t := by rw [hx]; exact List.getElem_mem hjn
     have hxu := hu.out t htm.out x hxm
     obtain ⟨hxo, hxi⟩ := hts.out.2 x hxm
     replace hx := Aside0.mk hx
     have hv0 := hxu.1
     have hv1 := hxu.2
     have X0 := (HB.cell (World.block_lt_of_cell? w _ x0)).trans x0
     have X1 := (HB.cell (World.block_lt_of_cell? w _ x1)).trans x1
     have X2 := (HB.cell (World.block_lt_of_cell? w _ x2)).trans x2
     have X3 := (HB.cell (World.block_lt_of_cell? w _ x3)).trans x3
     have X4 := (HB.cell (World.block_lt_of_cell? w _ x4)).trans x4
     have X5 := (HB.cell (World.block_lt_of_cell? w _ x5)).trans x5
     have X6 := (HB.cell (World.block_lt_of_cell? w _ x6)).trans x6
     have X7 := (HB.cell (World.block_lt_of_cell? w _ x7)).trans x7
     obtain ⟨ky, hky⟩ : ∃ k, encode_May.f k x.f0 x.f1 x.f2 x.f3 x.f4 x.f5 x.f6 x.f7 = some true := by
      have := may_ev x.f0 x.f1 x.f2 x.f3 x.f4 x.f5 x.f6 x.f7
      rw [decide_eq_true (show MayS x.f0 x.f1 x.f2 x.f3 x.f4 x.f5 x.f6 x.f7 from hxo)] at this
      exact Ev.rounds this
     have TY := fun wx => encode_May.calls ky x.f0 x.f1 x.f2 x.f3 x.f4 x.f5 x.f6 x.f7 true wx hky
     replace hky := Aside0.mk hky
     replace TY := Aside0.mk TY
     replace hxi := Aside0.mk hxi
     replace hxo := Aside0.mk hxo
     go_upto_region 11 with go_in
     have e6 := heap_alloc_new wr (Obj.cells #[.int .i64 x.f0, .int .i64 x.f1, .int .i64 x.f2, .int .i64 x.f3, .int .i64 x.f4, .int .i64 x.f5, .int .u64 x.f6, .int .i64 x.f7] 46 (0, 0))
     have hb6 : Below wr.heap.size wr (wr.alloc (Obj.cells #[.int .i64 x.f0, .int .i64 x.f1, .int .i64 x.f2, .int .i64 x.f3, .int .i64 x.f4, .int .i64 x.f5, .int .u64 x.f6, .int .i64 x.f7] 46 (0, 0))) := (Below.refl _ _).alloc (Nat.le_refl _) _
     generalize wr.alloc (Obj.cells #[.int .i64 x.f0, .int .i64 x.f1, .int .i64 x.f2, .int .i64 x.f3, .int .i64 x.f4, .int .i64 x.f5, .int .u64 x.f6, .int .i64 x.f7] 46 (0, 0)) = w3 at e6 hb6 ⊢
     have e1 := blk_below e1 hb6
     have HB := HB.trans (hb6.mono HB.size)
     generalize wr.heap.size = B6 at e6 ⊢
     clear X0 X1 X2 X3 X4 X5 X6 X7 hb6
     have y0 := blk_cell e6 0
     have y1 := blk_cell e6 1
     have y2 := blk_cell e6 2
     have y3 := blk_cell e6 3
     have y4 := blk_cell e6 4
     have y5 := blk_cell e6 5
     have y6 := blk_cell e6 6
     have y7 := blk_cell e6 7
     have x11 := blk_cell e1 1
     by_cases c4 : x.f0 = 4
     ·
      have c4i : (x.f0 == 4) = true := by simp [c4]
      have hlt : x.f6 < c := hxi.out (by omega)
      clear c4
      go_wp2_with (first
       | (go_at_call 20; go_loud (refine (TY.out w3).mono ?_; rintro e w4 ⟨rfl, hb4⟩; have e1 := blk_below e1 hb4; have HB := HB.trans (hb4.mono HB.size); have y6 := (blk_cell (blk_below e6 hb4) 6); have x11 := blk_cell e1 1))
       | go_in)
      go_roundw
      case rel => exact ⟨j + 1, by first | rfl | go_num, by omega, e1, HB⟩
      case measure => simp [intOf]; omega
     by_cases c5 : x.f0 = 5
     ·
      have c4i : (x.f0 == 4) = false := by simp [c4]
      have c5i : (x.f0 == 5) = true := by simp [c5]
      have hlt : x.f6 < c := hxi.out (by omega)
      clear c4 c5
      go_wp2_with (first
       | (go_at_call 20; go_loud (refine (TY.out w3).mono ?_; rintro e w4 ⟨rfl, hb4⟩; have e1 := blk_below e1 hb4; have HB := HB.trans (hb4.mono HB.size); have y6 := (blk_cell (blk_below e6 hb4) 6); have x11 := blk_cell e1 1))
       | go_in)
      go_roundw
      case rel => exact ⟨j + 1, by first | rfl | go_num, by omega, e1, HB⟩
      case measure => simp [intOf]; omega
     by_cases c8 : x.f0 = 8
     ·
      have c4i : (x.f0 == 4) = false := by simp [c4]
      have c5i : (x.f0 == 5) = false := by simp [c5]
      have c8i : (x.f0 == 8) = true := by simp [c8]
      have hlt : x.f6 < c := hxi.out (by omega)
      clear c4 c5 c8
      go_wp2_with (first
       | (go_at_call 20; go_loud (refine (TY.out w3).mono ?_; rintro e w4 ⟨rfl, hb4⟩; have e1 := blk_below e1 hb4; have HB := HB.trans (hb4.mono HB.size); have y6 := (blk_cell (blk_below e6 hb4) 6); have x11 := blk_cell e1 1))
       | go_in)
      go_roundw
      case rel => exact ⟨j + 1, by first | rfl | go_num, by omega, e1, HB⟩
      case measure => simp [intOf]; omega
     by_cases c9 : x.f0 = 9
     ·
      have c4i : (x.f0 == 4) = false := by simp [c4]
      have c5i : (x.f0 == 5) = false := by simp [c5]
      have c8i : (x.f0 == 8) = false := by simp [c8]
      have c9i : (x.f0 == 9) = true := by simp [c9]
      have hlt : x.f6 < c := hxi.out (by omega)
      clear c4 c5 c8 c9
      go_wp2_with (first
       | (go_at_call 20; go_loud (refine (TY.out w3).mono ?_; rintro e w4 ⟨rfl, hb4⟩; have e1 := blk_below e1 hb4; have HB := HB.trans (hb4.mono HB.size); have y6 := (blk_cell (blk_below e6 hb4) 6); have x11 := blk_cell e1 1))
       | go_in)
      go_roundw
      case rel => exact ⟨j + 1, by first | rfl | go_num, by omega, e1, HB⟩
      case measure => simp [intOf]; omega
     by_cases c10 : x.f0 = 10
     ·
      have c4i : (x.f0 == 4) = false := by simp [c4]
      have c5i : (x.f0 == 5) = false := by simp [c5]
      have c8i : (x.f0 == 8) = false := by simp [c8]
      have c9i : (x.f0 == 9) = false := by simp [c9]
      have c10i : (x.f0 == 10) = true := by simp [c10]
      have hlt : x.f6 < c := hxi.out (by omega)
      clear c4 c5 c8 c9 c10
      go_wp2_with (first
       | (go_at_call 20; go_loud (refine (TY.out w3).mono ?_; rintro e w4 ⟨rfl, hb4⟩; have e1 := blk_below e1 hb4; have HB := HB.trans (hb4.mono HB.size); have y6 := (blk_cell (blk_below e6 hb4) 6); have x11 := blk_cell e1 1))
       | go_in)
      go_roundw
      case rel => exact ⟨j + 1, by first | rfl | go_num, by omega, e1, HB⟩
      case measure => simp [intOf]; omega
     have c4i : (x.f0 == 4) = false := by simp [c4]
     have c5i : (x.f0 == 5) = false := by simp [c5]
     have c8i : (x.f0 == 8) = false := by simp [c8]
     have c9i : (x.f0 == 9) = false := by simp [c9]
     have c10i : (x.f0 == 10) = false := by simp [c10]
     clear c4 c5 c8 c9 c10
     go_wp2_with (first
      | (go_at_call 20; go_loud (refine (TY.out w3).mono ?_; rintro e w4 ⟨rfl, hb4⟩; have e1 := blk_below e1 hb4; have HB := HB.trans (hb4.mono HB.size); have y6 := (blk_cell (blk_below e6 hb4) 6); have x11 := blk_cell e1 1))
      | go_in)
     go_roundw
     case rel => exact ⟨j + 1, by first | rfl | go_num, by omega, e1, HB⟩
     case measure => simp [intOf]; omega
    ·
     obtain rfl : j = t.length := by omega
     go_wp2
     go_roundw
     case rel => exact ⟨q + 1, by first | rfl | go_num, by omega, e1, HB⟩
     case measure => simp [intOf]; omega
  ·
   obtain rfl : q = L.length := by omega
   go_wp2
   go_ret
   exact ⟨rfl, HB⟩
end Go.Proofs.Yteajbeajkplplaa.Pure
