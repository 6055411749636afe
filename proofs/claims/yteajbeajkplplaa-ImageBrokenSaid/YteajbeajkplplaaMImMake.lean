/-
The law's Make, walked by hand, by the printed contracts of the functions that it calls: An image that may be, of any codes. Conditions: as each theorem states them.
-/
import Derived.Test.YteajbeajkplplaaPureImA
import Derived.Test.YteajbeajkplplaaRows
import Derived.Test.YteajbeajkplplaaOpens
import Derived.WalkKit
import Derived.ProofKit
import Derived.OpenShut
import Derived.ShutString
import Derived.ChangeOld
import Derived.Below
import Derived.SizedLaws
import Derived.Lib.SmallJoins
set_option linter.unusedSimpArgs false
set_option linter.unusedVariables false
namespace Go.Proofs.Yteajbeajkplplaa.Pure
open Go.RowKit Go.Proofs.YteajbeajkplplaaW.PrintWords Go.Proofs.YteajbeajkplplaaW.PrintLast Go.Proofs.YteajbeajkplplaaW.PrintMore Go.Proofs.Yteajbeajkplplaa.Kit
open Go.Proofs.Yteajbeajkplplaa.PImageBytes
attribute [local go_sem] max2_int min2_int max_two min_two max_three min_three max_four min_four   -- for this text's walks alone
theorem alloc_sz (w : World) (o : Obj) : (w.alloc o).heap.size = w.heap.size + 1 := Array.size_push _
theorem make_some (x : S46) : ∃ k, tautochronelaw20_Make.f k x.f0 x.f1 x.f2 x.f3 x.f4 x.f5 x.f6 x.f7 = some ((mkX x).f0, (mkX x).f1, (mkX x).f2, (mkX x).f3, (mkX x).f4, (mkX x).f5, (mkX x).f6, (mkX x).f7) := Ev.rounds (make_ev ..)
theorem halt_some : ∃ k, encode_Bare.f k 13 0 0 0 0 0 0 0 = some (13, 0, -1, -1, -1, -1, 0, 0) := Ev.rounds (Bare_ev ..)
def mkI.T18 : Bool × List (List Nat × List Nat) := (true, [([], []), ([0], [0]), ([], []), ([], []), ([3], [3]), ([4], [4]), ([2, 5, 4], [2, 5]), ([6], [6]), ([1, 7, 6], [1, 7]), ([0, 1, 2, 3, 4, 5, 6, 7, 8], []), ([9, 8, 8, 0, 1, 2, 3, 4, 5, 6, 7, 8], [8, 9])])
def mkI.B18 : List Nat := [0, 1, 0, 0, 8, 24, 60, 124, 255, 511, 1023]
theorem mkI.tab18 : rtab .any (opsOf Try.f8 18) = mkI.T18 := by kernel_rfl
theorem mkI.bits18 : waitsOk mkI.T18.2 mkI.B18 = true := by kernel_rfl
set_option maxHeartbeats 4000000 in
set_option maxRecDepth 100000 in
theorem mkI.calls (A0 : Option Addr) (c0 : Nat) (R : List (List S46)) (sh ce : Int) (w : World) (hr0 : Kd.C (Kd.slice 46 k46) w A0 R.length R) (hc0 : R.length ≤ c0)
  (hR : R.length ≤ 9223372036854775806) (h1 : 0 ≤ sh ∧ sh ≤ 255) (h2 : 0 ≤ ce ∧ ce ≤ 255) (hu : ∀ t ∈ R, ∀ x ∈ t, U64 x) :
  Calls Try.prog 8 #[.slice A0 R.length c0, .int .u8 sh, .int .u8 ce] w fun e w' => ∃ v, e = .returned (.agg #[.int .i64 (sh % (ce + 2)), .int .i64 (ce + 1), v]) ∧ Kd.S (Kd.slice 46 k46) 41 w' w.heap.size (fun _ => True) v ((R.take 16).map (thM (ce + 1))) ∧ Below w.heap.size w w' := by
 obtain ⟨kh, hkh⟩ := halt_some
 have e1 : wrap64 ce = ce := wrap_in (by omega) (by omega)
 have e2 : wrap64 (ce + 1) = ce + 1 := wrap_in (by omega) (by omega)
 have e3 : wrap64 (ce + 1 + 1) = ce + 2 := by rw [wrap_in (by omega) (by omega)]; omega
 have e4 : wrap64 sh = sh := wrap_in (by omega) (by omega)
 have e5 : Int.tmod sh (ce + 2) = sh % (ce + 2) := Int.tmod_eq_emod_of_nonneg h1.1
 have e6 : ce + 1 + 1 = ce + 2 := by omega
 replace hu := Aside0.mk hu
 replace e1 := Aside0.mk e1
 replace e2 := Aside0.mk e2
 replace e3 := Aside0.mk e3
 replace e4 := Aside0.mk e4
 replace e5 := Aside0.mk e5
 go_enter Try.func8, Try.ntmps8
 go_upto_region 3 with go_in
 have BK6 := (blk_alloc (heap_alloc_new w (Obj.cells #[.int .i64 0, .int .i64 0, .slice none 0 0] 25 (0, 0))) (Obj.cells #[.int .i64 (sh % (ce + 2)), .int .i64 (ce + 1), .slice none 0 0] 25 (0, 0)))
 have BK7 := heap_alloc_new (w.alloc (Obj.cells #[.int .i64 0, .int .i64 0, .slice none 0 0] 25 (0, 0))) (Obj.cells #[.int .i64 (sh % (ce + 2)), .int .i64 (ce + 1), .slice none 0 0] 25 (0, 0))
 have HB : Below w.heap.size w ((w.alloc (Obj.cells #[.int .i64 0, .int .i64 0, .slice none 0 0] 25 (0, 0))).alloc (Obj.cells #[.int .i64 (sh % (ce + 2)), .int .i64 (ce + 1), .slice none 0 0] 25 (0, 0))) := ((Below.refl _ _).alloc (Nat.le_refl _) _).alloc (by rw [alloc_sz]; omega) _
 generalize ((w.alloc (Obj.cells #[.int .i64 0, .int .i64 0, .slice none 0 0] 25 (0, 0))).alloc (Obj.cells #[.int .i64 (sh % (ce + 2)), .int .i64 (ce + 1), .slice none 0 0] 25 (0, 0))) = w2 at BK6 BK7 HB ⊢
 rw [show (w.alloc (Obj.cells #[.int .i64 0, .int .i64 0, .slice none 0 0] 25 (0, 0))).heap.size = w.heap.size + 1 from alloc_sz _ _] at BK7
 obtain ⟨B6, hB6⟩ : ∃ B, B = w.heap.size := ⟨_, rfl⟩
 obtain ⟨B7, hB7⟩ : ∃ B, B = w.heap.size + 1 := ⟨_, rfl⟩
 rw [← hB7] at BK7
 rw [← hB7]
 have hG6 : w.heap.size ≤ B6 := by omega
 have hG7 : w.heap.size ≤ B7 := by omega
 have hN67 : B6 ≠ B7 := by omega
 replace hG6 := Aside0.mk hG6
 replace hG7 := Aside0.mk hG7
 replace BK6 : w2.heap[B6]? = some (Obj.cells #[.int .i64 0, .int .i64 0, .slice none 0 0] 25 (0, 0)) := by rw [hB6]; exact BK6
 rw [← hB6]
 replace hB6 := Aside0.mk hB6
 replace hB7 := Aside0.mk hB7
 replace e6 := Aside0.mk e6
 go_upto_region 4 with go_in
 go_loopw [28] (fun v28 wr => ∃ (i : Nat) (u : Value), v28 = .int .i64 i ∧ i ≤ 16 ∧ i ≤ R.length ∧ Kd.S (Kd.slice 46 k46) 41 wr w.heap.size (fun _ => True) u ((R.take i).map (thM (ce + 1))) ∧ wr.heap[B6]? = some (Obj.cells #[.int .i64 0, .int .i64 0, .slice none 0 0] 25 (0, 0)) ∧ wr.heap[B7]? = some (Obj.cells #[.int .i64 (sh % (ce + 2)), .int .i64 (ce + 1), u] 25 (0, 0)) ∧ Below w.heap.size w wr)
  (fun v28 _ => R.length - (intOf v28).toNat)
 case atStart => exact ⟨0, _, rfl, by omega, by omega, Kd.S_nil _ _ _ _ _, BK6, BK7, HB⟩
 case round =>
  clear BK6 BK7 HB
  obtain ⟨q, u, rfl, hq16, hq, HS, BK6, BK7, HB⟩ := hrel
  by_cases hqn : q < R.length
  ·
   by_cases hq6 : q = 16
   ·
    subst hq6
    replace hq := Aside0.mk hq
    have hi16 : (16 : Int) < (R.length : Int) := by omega
    obtain ⟨ad, AT, cT, eT, hxT, hlT, hCT⟩ := at_L3 hr0 16 (by omega) (by omega)
    cases eT
    have HXT := (HB.cell (World.block_lt_of_cell? w _ hxT)).trans hxT
    replace HXT : wr.cell? ⟨ad.block, ad.off + 16, none⟩ = some (.slice AT (rd_L3 R 16).length cT) := HXT
    have x70 := blk_cell BK7 0
    have x71 := blk_cell BK7 1
    have x72 := blk_cell BK7 2
    have x60 := blk_cell BK6 0
    have x61 := blk_cell BK6 1
    have x62 := blk_cell BK6 2
    have f70 := blk_frozen BK7 0
    have f71 := blk_frozen BK7 1
    have f72 := blk_frozen BK7 2
    have f60 := blk_frozen BK6 0
    have f61 := blk_frozen BK6 1
    have f62 := blk_frozen BK6 2
    have hN76 := hN67.symm
    have HF : (R.take 16).map (thM (ce + 1)) = (R.take 16).map (thM (ce + 1)) := by
     first | rfl | rw [List.take_of_length_le (show R.length ≤ 16 by omega), List.take_of_length_le (show R.length ≤ 16 by omega)]
    rw [HF] at HS
    clear HF
    generalize hLF : (R.take 16).map (thM (ce + 1)) = LF at HS
    replace hLF := Aside0.mk hLF
    obtain ⟨Ao, co, eo⟩ := Kd.S_slice HS
    subst eo
    go_wp2
    refine bodyPost_ret (results_cell_row rfl _ _ B6 25 #[.int .i64 (sh % (ce + 2)), .int .i64 (ce + 1), .slice Ao LF.length co] (0, 0) _ rfl (by (with_reducible repeat (first | refine blk_drewN ?_ _ | refine blk_drew ?_ | refine blk_alloc ?_ _)); refine blk_put (cs := #[.int .i64 (sh % (ce + 2)), .int .i64 (ce + 1), .slice none 0 0]) ?_ 2 _ rfl; (with_reducible repeat (first | refine blk_drewN ?_ _ | refine blk_drew ?_ | refine blk_alloc ?_ _)); refine blk_put (cs := #[.int .i64 (sh % (ce + 2)), .int .i64 0, .slice none 0 0]) ?_ 1 _ rfl; (with_reducible repeat (first | refine blk_drewN ?_ _ | refine blk_drew ?_ | refine blk_alloc ?_ _)); refine blk_put (cs := #[.int .i64 0, .int .i64 0, .slice none 0 0]) ?_ 0 _ rfl; (with_reducible repeat (first | refine blk_drewN ?_ _ | refine blk_drew ?_ | refine blk_alloc ?_ _)); exact BK6) Try.underlying25 rfl (by kernel_rfl)) rfl ?_
    refine ⟨_, rfl, ?_, ?_⟩
    ·
     rw [hLF.out]; (with_reducible repeat (first | apply Kd.S_alloc | apply Kd.S_drewN | apply Kd.S_drew)); exact Kd.S_mono (Kd.S_far (p := ⟨B6, 2, none⟩) (Kd.S_far (p := ⟨B6, 1, none⟩) (Kd.S_far (p := ⟨B6, 0, none⟩) (Kd.S_types HS BK6 (by decide)) (fun _ hk => hk.2) (.int .i64 (sh % (ce + 2)))) (fun _ hk => hk.2) (.int .i64 (ce + 1))) (fun _ hk => hk.2) (.slice Ao LF.length co)) (fun _ hk => trivial)
    ·
     repeat (first | (with_reducible first | exact HB | apply below_alloc | apply pw_below_drewN | apply below_drew1 | refine below_set ?_ hG6.out | refine below_set ?_ hG7.out) | exact HB)
   ·
    obtain ⟨ad, AT, cT, eT, hxT, hlT, hCT⟩ := at_L3 hr0 q (by omega) (by omega)
    cases eT
    have HXT := (HB.cell (World.block_lt_of_cell? w _ hxT)).trans hxT
    rw [Int.toNat_natCast] at HXT
    rw [rdL_at R q hqn] at HXT hlT hCT
    obtain ⟨t, ht⟩ : ∃ t, t = R[q] := ⟨_, rfl⟩
    rw [← ht] at HXT hlT hCT
    have htk : R.take (q + 1) = R.take q ++ [t] := by rw [List.take_add_one, List.getElem?_eq_getElem hqn, ht]; rfl
    have hut : ∀ x ∈ t, U64 x := fun x hx => hu.out t (by rw [ht]; exact List.getElem_mem hqn) x hx
    replace hut := Aside0.mk hut
    replace htk := Aside0.mk htk
    replace ht := Aside0.mk ht
    have hq6i : ¬ ((q : Int) = 16) := by omega
    have hqni : (q : Int) < (R.length : Int) := by omega
    obtain ⟨T, hT⟩ : ∃ T, T = t.take 30 := ⟨_, rfl⟩
    have hmn : (if (30 : Int) < (t.length : Int) then 30 else (t.length : Int)) = (T.length : Int) := by rw [hT, List.length_take]; split <;> omega
    have hT30 : T.length ≤ 30 := by rw [hT, List.length_take]; omega
    have hTt : T.length ≤ t.length := by rw [hT, List.length_take]; omega
    have hTi0 : (0 : Int) ≤ (T.length : Int) := by omega
    have hTi1 : (T.length : Int) ≤ (t.length : Int) := by omega
    obtain ⟨i020, hi020, _, hsz20, _⟩ := info_parts info46
    have hcut := cut_to (P := Try.prog) 41 46 .i64 Try.underlying41 hi020 AT t.length cT (T.length : Int) hTi0 hTi1 hlT
    rw [Int.toNat_natCast] at hcut
    have hCT' : k46.C w AT T.length T := by
     have := Kd.C_take (m := T.length) hCT (by omega)
     have e : t.take T.length = T := by
      rw [hT, List.length_take]
      by_cases h : t.length ≤ 30
      ·
       rw [Nat.min_eq_right h, List.take_of_length_le (Nat.le_refl _), List.take_of_length_le h]
      ·
       rw [Nat.min_eq_left (by omega)]
     rw [e] at this
     exact this
    have hlT' : T.length ≤ cT := by omega
    replace hT := Aside0.mk hT
    clear hsz20 hi020
    have hq6b : (((q : Int)) == 16) = false := by simp [hq6i]
    go_upto_region 10 with go_in
    obtain ⟨LH, hLH⟩ : ∃ L, L = (R.take q).map (thM (ce + 1)) := ⟨_, rfl⟩
    rw [← hLH] at HS
    have hLH16 : LH.length ≤ 16 := by rw [hLH, List.length_map, List.length_take]; omega
    replace hLH := Aside0.mk hLH
    obtain ⟨FX, hFX⟩ : ∃ F : S46 → S46, F = fun x => fixX (ce + 1) (T.length : Int) (mkX x) := ⟨_, rfl⟩
    replace hFX := Aside0.mk hFX
    replace hmn := Aside0.mk hmn
    replace hcut := Aside0.mk hcut
    replace hq6b := Aside0.mk hq6b
    replace hq6i := Aside0.mk hq6i
    clear HXT hxT
    go_loopw [10, 42] (fun v10 v42 wr' => ∃ j : Nat, v42 = .int .i64 j ∧ j ≤ T.length ∧ Kd.R k46 46 wr' w.heap.size (fun _ => True) v10 ((T.take j).map FX) ∧ Kd.S (Kd.slice 46 k46) 41 wr' w.heap.size (fun k => some k ≠ v10.ownBlock) u LH ∧ wr'.heap[B6]? = some (Obj.cells #[.int .i64 0, .int .i64 0, .slice none 0 0] 25 (0, 0)) ∧ wr'.heap[B7]? = some (Obj.cells #[.int .i64 (sh % (ce + 2)), .int .i64 (ce + 1), u] 25 (0, 0)) ∧ Below w.heap.size w wr')
     (fun _ v42 _ => T.length - (intOf v42).toNat)
    case atStart => exact ⟨0, rfl, by omega, Kd.R_nil _ _ _ _ _, Kd.S_mono HS (fun _ _ => by simp [Value.ownBlock]), BK6, BK7, HB⟩
    case round =>
     clear BK6 BK7 HB HS
     obtain ⟨j, rfl, hjT, HRw, HS, BK6, BK7, HB⟩ := hrel
     by_cases hj : j < T.length
     ·
      obtain ⟨ad2, eA2, x0, x1, x2, x3, x4, x5, x6, x7⟩ := at_T46 hCT' j (by omega) (by omega)
      subst eA2
      rw [rdT_at T j hj, Int.toNat_natCast] at x0 x1 x2 x3 x4 x5 x6 x7
      obtain ⟨x, hx⟩ : ∃ x, x = T[j] := ⟨_, rfl⟩
      rw [← hx] at x0 x1 x2 x3 x4 x5 x6 x7
      have hxu : U64 x := by
       have : x ∈ T := by rw [hx]; exact List.getElem_mem hj
       exact hut.out x (by rw [hT.out] at this; exact List.mem_of_mem_take this)
      have X0 := (HB.cell (World.block_lt_of_cell? w _ x0)).trans x0
      have X1 := (HB.cell (World.block_lt_of_cell? w _ x1)).trans x1
      have X2 := (HB.cell (World.block_lt_of_cell? w _ x2)).trans x2
      have X3 := (HB.cell (World.block_lt_of_cell? w _ x3)).trans x3
      have X4 := (HB.cell (World.block_lt_of_cell? w _ x4)).trans x4
      have X5 := (HB.cell (World.block_lt_of_cell? w _ x5)).trans x5
      have X6 := (HB.cell (World.block_lt_of_cell? w _ x6)).trans x6
      have X7 := (HB.cell (World.block_lt_of_cell? w _ x7)).trans x7
      have htj : T.take (j + 1) = T.take j ++ [x] := by rw [List.take_add_one, List.getElem?_eq_getElem hj, hx]; rfl
      replace htj := Aside0.mk htj
      replace hx := Aside0.mk hx
      obtain ⟨km, hkm⟩ := make_some x
      have hok := mk_ok x hxu
      obtain ⟨d, hd⟩ : ∃ d, d = mkX x := ⟨_, rfl⟩
      rw [← hd] at hkm hok
      replace hd := Aside0.mk hd
      go_upto_region 12 with go_in
      have e13 := heap_alloc_new wr (Obj.cells #[.int .i64 x.f0, .int .i64 x.f1, .int .i64 x.f2, .int .i64 x.f3, .int .i64 x.f4, .int .i64 x.f5, .int .u64 x.f6, .int .i64 x.f7] 46 (0, 0))
      have hb7 : Below wr.heap.size wr (wr.alloc (Obj.cells #[.int .i64 x.f0, .int .i64 x.f1, .int .i64 x.f2, .int .i64 x.f3, .int .i64 x.f4, .int .i64 x.f5, .int .u64 x.f6, .int .i64 x.f7] 46 (0, 0))) := (Below.refl _ _).alloc (Nat.le_refl _) _
      generalize wr.alloc (Obj.cells #[.int .i64 x.f0, .int .i64 x.f1, .int .i64 x.f2, .int .i64 x.f3, .int .i64 x.f4, .int .i64 x.f5, .int .u64 x.f6, .int .i64 x.f7] 46 (0, 0)) = w7 at e13 hb7 ⊢
      have HRw := Kd.R_below HRw hb7
      have HS := Kd.S_below HS hb7
      have BK6 := blk_below BK6 hb7
      have BK7 := blk_below BK7 hb7
      have HB := HB.trans (hb7.mono HB.size)
      generalize wr.heap.size = B13 at e13 ⊢
      clear X0 X1 X2 X3 X4 X5 X6 X7 hb7
      have y0 := blk_cell e13 0
      have y1 := blk_cell e13 1
      have y2 := blk_cell e13 2
      have y3 := blk_cell e13 3
      have y4 := blk_cell e13 4
      have y5 := blk_cell e13 5
      have y6 := blk_cell e13 6
      have y7 := blk_cell e13 7
      go_upto_region 13 with (first
       | (go_at_call 15; refine (tautochronelaw20_Make.calls km x.f0 x.f1 x.f2 x.f3 x.f4 x.f5 x.f6 x.f7 d.f0 d.f1 d.f2 d.f3 d.f4 d.f5 d.f6 d.f7 _ hkm).mono ?_; rintro e w8 ⟨rfl, hb8⟩; have HRw := Kd.R_below HRw hb8; have HS := Kd.S_below HS hb8; have BK6 := blk_below BK6 hb8; have BK7 := blk_below BK7 hb8; have HB := HB.trans (hb8.mono HB.size))
       | go_in)
      have hTn : (0 : Int) ≤ (T.length : Int) + 1 := by omega
      have hg0 := hok.g0
      have hv0 := hok.v0
      have e14 := heap_alloc_new w8 (Obj.cells #[.int .i64 d.f0, .int .i64 d.f1, .int .i64 d.f2, .int .i64 d.f3, .int .i64 d.f4, .int .i64 d.f5, .int .u64 d.f6, .int .i64 d.f7] 46 (0, 0))
      have hb9 : Below w8.heap.size w8 (w8.alloc (Obj.cells #[.int .i64 d.f0, .int .i64 d.f1, .int .i64 d.f2, .int .i64 d.f3, .int .i64 d.f4, .int .i64 d.f5, .int .u64 d.f6, .int .i64 d.f7] 46 (0, 0))) := (Below.refl _ _).alloc (Nat.le_refl _) _
      obtain ⟨B14, hB14⟩ : ∃ B, B = w8.heap.size := ⟨_, rfl⟩
      rw [← hB14] at e14 ⊢
      have hB14' : w8.heap.size ≤ B14 := by omega
      generalize w8.alloc (Obj.cells #[.int .i64 d.f0, .int .i64 d.f1, .int .i64 d.f2, .int .i64 d.f3, .int .i64 d.f4, .int .i64 d.f5, .int .u64 d.f6, .int .i64 d.f7] 46 (0, 0)) = w9 at e14 hb9 ⊢
      clear y0 y1 y2 y3 y4 y5 y6 y7 e13
      have y0 := blk_cell e14 0
      have y1 := blk_cell e14 1
      have y2 := blk_cell e14 2
      have y3 := blk_cell e14 3
      have y4 := blk_cell e14 4
      have y5 := blk_cell e14 5
      have y6 := blk_cell e14 6
      have y7 := blk_cell e14 7
      have f7 := blk_frozen e14 7
      replace hB14 := Aside0.mk hB14
      replace hB14' := Aside0.mk hB14'
      go_upto_region 14 with go_in
      obtain ⟨g', hg'⟩ : ∃ g, g = d.f7 % ((T.length : Int) + 1) := ⟨_, rfl⟩
      rw [← hg']
      have e14 := blk_put (cs' := #[.int .i64 d.f0, .int .i64 d.f1, .int .i64 d.f2, .int .i64 d.f3, .int .i64 d.f4, .int .i64 d.f5, .int .u64 d.f6, .int .i64 g']) e14 7 (.int .i64 g') rfl
      have hb10 : Below w8.heap.size w8 (w9.setCell ⟨B14, 7, none⟩ (.int .i64 g')) := hb9.setCell hB14'.out _
      generalize w9.setCell ⟨B14, 7, none⟩ (.int .i64 g') = w10 at e14 hb10 ⊢
      clear y0 y1 y2 y3 y4 y5 y6 y7 f7 hb9
      replace hg' := Aside0.mk hg'
      have y0 := blk_cell e14 0
      have y6 := blk_cell e14 6
      have f6 := blk_frozen e14 6
      have y71 := blk_cell (blk_below BK7 hb10) 1
      have hc1 : (0 : Int) < ce + 1 := by omega
      by_cases c4 : d.f0 = 4
      ·
       have c4i : (d.f0 == 4) = true := by simp [c4]
       have hP : PlaceOp d.f0 := by unfold PlaceOp; omega
       replace hP := Aside0.mk hP
       clear c4
       go_upto_region 16 with go_in
       clear c4i
       have hnw : (w10.setCell ⟨B14, 6, none⟩ (.int .u64 (d.f6 % (ce + 1)))).heap[B14]? = _ := blk_put (cs' := #[.int .i64 d.f0, .int .i64 d.f1, .int .i64 d.f2, .int .i64 d.f3, .int .i64 d.f4, .int .i64 d.f5, .int .u64 (d.f6 % (ce + 1)), .int .i64 g']) e14 6 (.int .u64 (d.f6 % (ce + 1))) rfl
       have hbw : Below w8.heap.size w8 (w10.setCell ⟨B14, 6, none⟩ (.int .u64 (d.f6 % (ce + 1)))) := hb10.setCell hB14'.out _
       generalize w10.setCell ⟨B14, 6, none⟩ (.int .u64 (d.f6 % (ce + 1))) = w11 at hnw hbw ⊢
       have HRw := Kd.R_below HRw hbw
       have HS := Kd.S_below HS hbw
       have BK6 := blk_below BK6 hbw
       have BK7 := blk_below BK7 hbw
       have HB := HB.trans (hbw.mono HB.size)
       clear y0 y6 f6 y71 hbw e14 hb10
       have z0 := blk_cell hnw 0
       have z1 := blk_cell hnw 1
       have z2 := blk_cell hnw 2
       have z3 := blk_cell hnw 3
       have z4 := blk_cell hnw 4
       have z5 := blk_cell hnw 5
       have z6 := blk_cell hnw 6
       have z7 := blk_cell hnw 7
       have hlj : ((T.take j).map FX).length ≤ 30 := by rw [List.length_map, List.length_take]; omega
       have hfx : FX x = (⟨d.f0, d.f1, d.f2, d.f3, d.f4, d.f5, d.f6 % (ce + 1), g'⟩ : S46) := by
        rw [hFX.out, hg'.out]
        show fixX (ce + 1) (T.length : Int) (mkX x) = _
        rw [← hd.out]
        unfold fixX
        rw [if_pos hP.out]
       go_upto_region 17 with (first
        | (at_builtin; go_loud (refine Kd.R_append k46 (w0 := w) w.heap.size rfl (.tmp 84) (.tmp 86) 41 46 (.agg #[(.int .i64 0), (.int .i64 0), (.int .i64 0), (.int .i64 0), (.int .i64 0), (.int .i64 0), (.int .u64 0), (.int .i64 0)]) 64 rfl Try.underlying41 info46 rfl (by decide) (by omega) u10 ((T.take j).map FX) (⟨d.f0, d.f1, d.f2, d.f3, d.f4, d.f5, d.f6 % (ce + 1), g'⟩ : S46) [.int .i64 d.f0, .int .i64 d.f1, .int .i64 d.f2, .int .i64 d.f3, .int .i64 d.f4, .int .i64 d.f5, .int .u64 (d.f6 % (ce + 1)), .int .i64 g'] (fun _ => True) (fun _ => False) rfl (by first | (go_simp; done) | (go_simp; rfl)) ?aP (fun _ hk => hk.elim) ?aF ?aO ?aB ?aS ?aL ?_; (case aP => exact k46_mkM _ _ _ (⟨d.f0, d.f1, d.f2, d.f3, d.f4, d.f5, d.f6 % (ce + 1), g'⟩ : S46)); (case aB => exact HB); (case aF => exact (fun _ _ => trivial)); (case aO => exact HRw); (case aS => exact HB.size); (case aL => omega); intro v10 w12 ho hb hg hat; rw [← hfx] at ho; have HS := Kd.S_after (ok := (fun _ => True)) (Kd.S_mono HS (fun _ hk => ⟨trivial, hk⟩)) hg hat; have BK6 := blk_grown BK6 hg (Kd.R_ne HRw BK6 (by decide)); have BK7 := blk_grown BK7 hg (Kd.R_ne HRw BK7 (by decide)); have HB := hb))
        | go_in)
       go_wp2
       go_roundw
       case rel => exact ⟨j + 1, by first | rfl | go_num, by omega, by rw [htj.out, List.map_append]; exact ho, Kd.S_mono HS (fun _ hk => hk.2), BK6, BK7, HB⟩
       case measure => simp [intOf]; omega
      by_cases c5 : d.f0 = 5
      ·
       have c4i : (d.f0 == 4) = false := by simp [c4]
       have c5i : (d.f0 == 5) = true := by simp [c5]
       have hP : PlaceOp d.f0 := by unfold PlaceOp; omega
       replace hP := Aside0.mk hP
       clear c4 c5
       go_upto_region 16 with go_in
       clear c4i c5i
       have hnw : (w10.setCell ⟨B14, 6, none⟩ (.int .u64 (d.f6 % (ce + 1)))).heap[B14]? = _ := blk_put (cs' := #[.int .i64 d.f0, .int .i64 d.f1, .int .i64 d.f2, .int .i64 d.f3, .int .i64 d.f4, .int .i64 d.f5, .int .u64 (d.f6 % (ce + 1)), .int .i64 g']) e14 6 (.int .u64 (d.f6 % (ce + 1))) rfl
       have hbw : Below w8.heap.size w8 (w10.setCell ⟨B14, 6, none⟩ (.int .u64 (d.f6 % (ce + 1)))) := hb10.setCell hB14'.out _
       generalize w10.setCell ⟨B14, 6, none⟩ (.int .u64 (d.f6 % (ce + 1))) = w11 at hnw hbw ⊢
       have HRw := Kd.R_below HRw hbw
       have HS := Kd.S_below HS hbw
       have BK6 := blk_below BK6 hbw
       have BK7 := blk_below BK7 hbw
       have HB := HB.trans (hbw.mono HB.size)
       clear y0 y6 f6 y71 hbw e14 hb10
       have z0 := blk_cell hnw 0
       have z1 := blk_cell hnw 1
       have z2 := blk_cell hnw 2
       have z3 := blk_cell hnw 3
       have z4 := blk_cell hnw 4
       have z5 := blk_cell hnw 5
       have z6 := blk_cell hnw 6
       have z7 := blk_cell hnw 7
       have hlj : ((T.take j).map FX).length ≤ 30 := by rw [List.length_map, List.length_take]; omega
       have hfx : FX x = (⟨d.f0, d.f1, d.f2, d.f3, d.f4, d.f5, d.f6 % (ce + 1), g'⟩ : S46) := by
        rw [hFX.out, hg'.out]
        show fixX (ce + 1) (T.length : Int) (mkX x) = _
        rw [← hd.out]
        unfold fixX
        rw [if_pos hP.out]
       go_upto_region 17 with (first
        | (at_builtin; go_loud (refine Kd.R_append k46 (w0 := w) w.heap.size rfl (.tmp 84) (.tmp 86) 41 46 (.agg #[(.int .i64 0), (.int .i64 0), (.int .i64 0), (.int .i64 0), (.int .i64 0), (.int .i64 0), (.int .u64 0), (.int .i64 0)]) 64 rfl Try.underlying41 info46 rfl (by decide) (by omega) u10 ((T.take j).map FX) (⟨d.f0, d.f1, d.f2, d.f3, d.f4, d.f5, d.f6 % (ce + 1), g'⟩ : S46) [.int .i64 d.f0, .int .i64 d.f1, .int .i64 d.f2, .int .i64 d.f3, .int .i64 d.f4, .int .i64 d.f5, .int .u64 (d.f6 % (ce + 1)), .int .i64 g'] (fun _ => True) (fun _ => False) rfl (by first | (go_simp; done) | (go_simp; rfl)) ?aP (fun _ hk => hk.elim) ?aF ?aO ?aB ?aS ?aL ?_; (case aP => exact k46_mkM _ _ _ (⟨d.f0, d.f1, d.f2, d.f3, d.f4, d.f5, d.f6 % (ce + 1), g'⟩ : S46)); (case aB => exact HB); (case aF => exact (fun _ _ => trivial)); (case aO => exact HRw); (case aS => exact HB.size); (case aL => omega); intro v10 w12 ho hb hg hat; rw [← hfx] at ho; have HS := Kd.S_after (ok := (fun _ => True)) (Kd.S_mono HS (fun _ hk => ⟨trivial, hk⟩)) hg hat; have BK6 := blk_grown BK6 hg (Kd.R_ne HRw BK6 (by decide)); have BK7 := blk_grown BK7 hg (Kd.R_ne HRw BK7 (by decide)); have HB := hb))
        | go_in)
       go_wp2
       go_roundw
       case rel => exact ⟨j + 1, by first | rfl | go_num, by omega, by rw [htj.out, List.map_append]; exact ho, Kd.S_mono HS (fun _ hk => hk.2), BK6, BK7, HB⟩
       case measure => simp [intOf]; omega
      by_cases c8 : d.f0 = 8
      ·
       have c4i : (d.f0 == 4) = false := by simp [c4]
       have c5i : (d.f0 == 5) = false := by simp [c5]
       have c8i : (d.f0 == 8) = true := by simp [c8]
       have hP : PlaceOp d.f0 := by unfold PlaceOp; omega
       replace hP := Aside0.mk hP
       clear c4 c5 c8
       go_upto_region 16 with go_in
       clear c4i c5i c8i
       have hnw : (w10.setCell ⟨B14, 6, none⟩ (.int .u64 (d.f6 % (ce + 1)))).heap[B14]? = _ := blk_put (cs' := #[.int .i64 d.f0, .int .i64 d.f1, .int .i64 d.f2, .int .i64 d.f3, .int .i64 d.f4, .int .i64 d.f5, .int .u64 (d.f6 % (ce + 1)), .int .i64 g']) e14 6 (.int .u64 (d.f6 % (ce + 1))) rfl
       have hbw : Below w8.heap.size w8 (w10.setCell ⟨B14, 6, none⟩ (.int .u64 (d.f6 % (ce + 1)))) := hb10.setCell hB14'.out _
       generalize w10.setCell ⟨B14, 6, none⟩ (.int .u64 (d.f6 % (ce + 1))) = w11 at hnw hbw ⊢
       have HRw := Kd.R_below HRw hbw
       have HS := Kd.S_below HS hbw
       have BK6 := blk_below BK6 hbw
       have BK7 := blk_below BK7 hbw
       have HB := HB.trans (hbw.mono HB.size)
       clear y0 y6 f6 y71 hbw e14 hb10
       have z0 := blk_cell hnw 0
       have z1 := blk_cell hnw 1
       have z2 := blk_cell hnw 2
       have z3 := blk_cell hnw 3
       have z4 := blk_cell hnw 4
       have z5 := blk_cell hnw 5
       have z6 := blk_cell hnw 6
       have z7 := blk_cell hnw 7
       have hlj : ((T.take j).map FX).length ≤ 30 := by rw [List.length_map, List.length_take]; omega
       have hfx : FX x = (⟨d.f0, d.f1, d.f2, d.f3, d.f4, d.f5, d.f6 % (ce + 1), g'⟩ : S46) := by
        rw [hFX.out, hg'.out]
        show fixX (ce + 1) (T.length : Int) (mkX x) = _
        rw [← hd.out]
        unfold fixX
        rw [if_pos hP.out]
       go_upto_region 17 with (first
        | (at_builtin; go_loud (refine Kd.R_append k46 (w0 := w) w.heap.size rfl (.tmp 84) (.tmp 86) 41 46 (.agg #[(.int .i64 0), (.int .i64 0), (.int .i64 0), (.int .i64 0), (.int .i64 0), (.int .i64 0), (.int .u64 0), (.int .i64 0)]) 64 rfl Try.underlying41 info46 rfl (by decide) (by omega) u10 ((T.take j).map FX) (⟨d.f0, d.f1, d.f2, d.f3, d.f4, d.f5, d.f6 % (ce + 1), g'⟩ : S46) [.int .i64 d.f0, .int .i64 d.f1, .int .i64 d.f2, .int .i64 d.f3, .int .i64 d.f4, .int .i64 d.f5, .int .u64 (d.f6 % (ce + 1)), .int .i64 g'] (fun _ => True) (fun _ => False) rfl (by first | (go_simp; done) | (go_simp; rfl)) ?aP (fun _ hk => hk.elim) ?aF ?aO ?aB ?aS ?aL ?_; (case aP => exact k46_mkM _ _ _ (⟨d.f0, d.f1, d.f2, d.f3, d.f4, d.f5, d.f6 % (ce + 1), g'⟩ : S46)); (case aB => exact HB); (case aF => exact (fun _ _ => trivial)); (case aO => exact HRw); (case aS => exact HB.size); (case aL => omega); intro v10 w12 ho hb hg hat; rw [← hfx] at ho; have HS := Kd.S_after (ok := (fun _ => True)) (Kd.S_mono HS (fun _ hk => ⟨trivial, hk⟩)) hg hat; have BK6 := blk_grown BK6 hg (Kd.R_ne HRw BK6 (by decide)); have BK7 := blk_grown BK7 hg (Kd.R_ne HRw BK7 (by decide)); have HB := hb))
        | go_in)
       go_wp2
       go_roundw
       case rel => exact ⟨j + 1, by first | rfl | go_num, by omega, by rw [htj.out, List.map_append]; exact ho, Kd.S_mono HS (fun _ hk => hk.2), BK6, BK7, HB⟩
       case measure => simp [intOf]; omega
      by_cases c9 : d.f0 = 9
      ·
       have c4i : (d.f0 == 4) = false := by simp [c4]
       have c5i : (d.f0 == 5) = false := by simp [c5]
       have c8i : (d.f0 == 8) = false := by simp [c8]
       have c9i : (d.f0 == 9) = true := by simp [c9]
       have hP : PlaceOp d.f0 := by unfold PlaceOp; omega
       replace hP := Aside0.mk hP
       clear c4 c5 c8 c9
       go_upto_region 16 with go_in
       clear c4i c5i c8i c9i
       have hnw : (w10.setCell ⟨B14, 6, none⟩ (.int .u64 (d.f6 % (ce + 1)))).heap[B14]? = _ := blk_put (cs' := #[.int .i64 d.f0, .int .i64 d.f1, .int .i64 d.f2, .int .i64 d.f3, .int .i64 d.f4, .int .i64 d.f5, .int .u64 (d.f6 % (ce + 1)), .int .i64 g']) e14 6 (.int .u64 (d.f6 % (ce + 1))) rfl
       have hbw : Below w8.heap.size w8 (w10.setCell ⟨B14, 6, none⟩ (.int .u64 (d.f6 % (ce + 1)))) := hb10.setCell hB14'.out _
       generalize w10.setCell ⟨B14, 6, none⟩ (.int .u64 (d.f6 % (ce + 1))) = w11 at hnw hbw ⊢
       have HRw := Kd.R_below HRw hbw
       have HS := Kd.S_below HS hbw
       have BK6 := blk_below BK6 hbw
       have BK7 := blk_below BK7 hbw
       have HB := HB.trans (hbw.mono HB.size)
       clear y0 y6 f6 y71 hbw e14 hb10
       have z0 := blk_cell hnw 0
       have z1 := blk_cell hnw 1
       have z2 := blk_cell hnw 2
       have z3 := blk_cell hnw 3
       have z4 := blk_cell hnw 4
       have z5 := blk_cell hnw 5
       have z6 := blk_cell hnw 6
       have z7 := blk_cell hnw 7
       have hlj : ((T.take j).map FX).length ≤ 30 := by rw [List.length_map, List.length_take]; omega
       have hfx : FX x = (⟨d.f0, d.f1, d.f2, d.f3, d.f4, d.f5, d.f6 % (ce + 1), g'⟩ : S46) := by
        rw [hFX.out, hg'.out]
        show fixX (ce + 1) (T.length : Int) (mkX x) = _
        rw [← hd.out]
        unfold fixX
        rw [if_pos hP.out]
       go_upto_region 17 with (first
        | (at_builtin; go_loud (refine Kd.R_append k46 (w0 := w) w.heap.size rfl (.tmp 84) (.tmp 86) 41 46 (.agg #[(.int .i64 0), (.int .i64 0), (.int .i64 0), (.int .i64 0), (.int .i64 0), (.int .i64 0), (.int .u64 0), (.int .i64 0)]) 64 rfl Try.underlying41 info46 rfl (by decide) (by omega) u10 ((T.take j).map FX) (⟨d.f0, d.f1, d.f2, d.f3, d.f4, d.f5, d.f6 % (ce + 1), g'⟩ : S46) [.int .i64 d.f0, .int .i64 d.f1, .int .i64 d.f2, .int .i64 d.f3, .int .i64 d.f4, .int .i64 d.f5, .int .u64 (d.f6 % (ce + 1)), .int .i64 g'] (fun _ => True) (fun _ => False) rfl (by first | (go_simp; done) | (go_simp; rfl)) ?aP (fun _ hk => hk.elim) ?aF ?aO ?aB ?aS ?aL ?_; (case aP => exact k46_mkM _ _ _ (⟨d.f0, d.f1, d.f2, d.f3, d.f4, d.f5, d.f6 % (ce + 1), g'⟩ : S46)); (case aB => exact HB); (case aF => exact (fun _ _ => trivial)); (case aO => exact HRw); (case aS => exact HB.size); (case aL => omega); intro v10 w12 ho hb hg hat; rw [← hfx] at ho; have HS := Kd.S_after (ok := (fun _ => True)) (Kd.S_mono HS (fun _ hk => ⟨trivial, hk⟩)) hg hat; have BK6 := blk_grown BK6 hg (Kd.R_ne HRw BK6 (by decide)); have BK7 := blk_grown BK7 hg (Kd.R_ne HRw BK7 (by decide)); have HB := hb))
        | go_in)
       go_wp2
       go_roundw
       case rel => exact ⟨j + 1, by first | rfl | go_num, by omega, by rw [htj.out, List.map_append]; exact ho, Kd.S_mono HS (fun _ hk => hk.2), BK6, BK7, HB⟩
       case measure => simp [intOf]; omega
      by_cases c10 : d.f0 = 10
      ·
       have c4i : (d.f0 == 4) = false := by simp [c4]
       have c5i : (d.f0 == 5) = false := by simp [c5]
       have c8i : (d.f0 == 8) = false := by simp [c8]
       have c9i : (d.f0 == 9) = false := by simp [c9]
       have c10i : (d.f0 == 10) = true := by simp [c10]
       have hP : PlaceOp d.f0 := by unfold PlaceOp; omega
       replace hP := Aside0.mk hP
       clear c4 c5 c8 c9 c10
       go_upto_region 16 with go_in
       clear c4i c5i c8i c9i c10i
       have hnw : (w10.setCell ⟨B14, 6, none⟩ (.int .u64 (d.f6 % (ce + 1)))).heap[B14]? = _ := blk_put (cs' := #[.int .i64 d.f0, .int .i64 d.f1, .int .i64 d.f2, .int .i64 d.f3, .int .i64 d.f4, .int .i64 d.f5, .int .u64 (d.f6 % (ce + 1)), .int .i64 g']) e14 6 (.int .u64 (d.f6 % (ce + 1))) rfl
       have hbw : Below w8.heap.size w8 (w10.setCell ⟨B14, 6, none⟩ (.int .u64 (d.f6 % (ce + 1)))) := hb10.setCell hB14'.out _
       generalize w10.setCell ⟨B14, 6, none⟩ (.int .u64 (d.f6 % (ce + 1))) = w11 at hnw hbw ⊢
       have HRw := Kd.R_below HRw hbw
       have HS := Kd.S_below HS hbw
       have BK6 := blk_below BK6 hbw
       have BK7 := blk_below BK7 hbw
       have HB := HB.trans (hbw.mono HB.size)
       clear y0 y6 f6 y71 hbw e14 hb10
       have z0 := blk_cell hnw 0
       have z1 := blk_cell hnw 1
       have z2 := blk_cell hnw 2
       have z3 := blk_cell hnw 3
       have z4 := blk_cell hnw 4
       have z5 := blk_cell hnw 5
       have z6 := blk_cell hnw 6
       have z7 := blk_cell hnw 7
       have hlj : ((T.take j).map FX).length ≤ 30 := by rw [List.length_map, List.length_take]; omega
       have hfx : FX x = (⟨d.f0, d.f1, d.f2, d.f3, d.f4, d.f5, d.f6 % (ce + 1), g'⟩ : S46) := by
        rw [hFX.out, hg'.out]
        show fixX (ce + 1) (T.length : Int) (mkX x) = _
        rw [← hd.out]
        unfold fixX
        rw [if_pos hP.out]
       go_upto_region 17 with (first
        | (at_builtin; go_loud (refine Kd.R_append k46 (w0 := w) w.heap.size rfl (.tmp 84) (.tmp 86) 41 46 (.agg #[(.int .i64 0), (.int .i64 0), (.int .i64 0), (.int .i64 0), (.int .i64 0), (.int .i64 0), (.int .u64 0), (.int .i64 0)]) 64 rfl Try.underlying41 info46 rfl (by decide) (by omega) u10 ((T.take j).map FX) (⟨d.f0, d.f1, d.f2, d.f3, d.f4, d.f5, d.f6 % (ce + 1), g'⟩ : S46) [.int .i64 d.f0, .int .i64 d.f1, .int .i64 d.f2, .int .i64 d.f3, .int .i64 d.f4, .int .i64 d.f5, .int .u64 (d.f6 % (ce + 1)), .int .i64 g'] (fun _ => True) (fun _ => False) rfl (by first | (go_simp; done) | (go_simp; rfl)) ?aP (fun _ hk => hk.elim) ?aF ?aO ?aB ?aS ?aL ?_; (case aP => exact k46_mkM _ _ _ (⟨d.f0, d.f1, d.f2, d.f3, d.f4, d.f5, d.f6 % (ce + 1), g'⟩ : S46)); (case aB => exact HB); (case aF => exact (fun _ _ => trivial)); (case aO => exact HRw); (case aS => exact HB.size); (case aL => omega); intro v10 w12 ho hb hg hat; rw [← hfx] at ho; have HS := Kd.S_after (ok := (fun _ => True)) (Kd.S_mono HS (fun _ hk => ⟨trivial, hk⟩)) hg hat; have BK6 := blk_grown BK6 hg (Kd.R_ne HRw BK6 (by decide)); have BK7 := blk_grown BK7 hg (Kd.R_ne HRw BK7 (by decide)); have HB := hb))
        | go_in)
       go_wp2
       go_roundw
       case rel => exact ⟨j + 1, by first | rfl | go_num, by omega, by rw [htj.out, List.map_append]; exact ho, Kd.S_mono HS (fun _ hk => hk.2), BK6, BK7, HB⟩
       case measure => simp [intOf]; omega
      ·
       have c4i : (d.f0 == 4) = false := by simp [c4]
       have c5i : (d.f0 == 5) = false := by simp [c5]
       have c8i : (d.f0 == 8) = false := by simp [c8]
       have c9i : (d.f0 == 9) = false := by simp [c9]
       have c10i : (d.f0 == 10) = false := by simp [c10]
       have hP : ¬ PlaceOp d.f0 := by unfold PlaceOp; omega
       replace hP := Aside0.mk hP
       clear c4 c5 c8 c9 c10
       go_upto_region 16 with go_in
       clear c4i c5i c8i c9i c10i y0 y6 f6 y71
       have hnw := e14
       have hbw := hb10
       generalize w10 = w11 at hnw hbw ⊢
       have HRw := Kd.R_below HRw hbw
       have HS := Kd.S_below HS hbw
       have BK6 := blk_below BK6 hbw
       have BK7 := blk_below BK7 hbw
       have HB := HB.trans (hbw.mono HB.size)
       clear hbw
       have z0 := blk_cell hnw 0
       have z1 := blk_cell hnw 1
       have z2 := blk_cell hnw 2
       have z3 := blk_cell hnw 3
       have z4 := blk_cell hnw 4
       have z5 := blk_cell hnw 5
       have z6 := blk_cell hnw 6
       have z7 := blk_cell hnw 7
       have hlj : ((T.take j).map FX).length ≤ 30 := by rw [List.length_map, List.length_take]; omega
       have hfx : FX x = (⟨d.f0, d.f1, d.f2, d.f3, d.f4, d.f5, d.f6, g'⟩ : S46) := by
        rw [hFX.out, hg'.out]
        show fixX (ce + 1) (T.length : Int) (mkX x) = _
        rw [← hd.out]
        unfold fixX
        rw [if_neg hP.out]
       go_upto_region 17 with (first
        | (at_builtin; go_loud (refine Kd.R_append k46 (w0 := w) w.heap.size rfl (.tmp 84) (.tmp 86) 41 46 (.agg #[(.int .i64 0), (.int .i64 0), (.int .i64 0), (.int .i64 0), (.int .i64 0), (.int .i64 0), (.int .u64 0), (.int .i64 0)]) 64 rfl Try.underlying41 info46 rfl (by decide) (by omega) u10 ((T.take j).map FX) (⟨d.f0, d.f1, d.f2, d.f3, d.f4, d.f5, d.f6, g'⟩ : S46) [.int .i64 d.f0, .int .i64 d.f1, .int .i64 d.f2, .int .i64 d.f3, .int .i64 d.f4, .int .i64 d.f5, .int .u64 d.f6, .int .i64 g'] (fun _ => True) (fun _ => False) rfl (by first | (go_simp; done) | (go_simp; rfl)) ?aP (fun _ hk => hk.elim) ?aF ?aO ?aB ?aS ?aL ?_; (case aP => exact k46_mkM _ _ _ (⟨d.f0, d.f1, d.f2, d.f3, d.f4, d.f5, d.f6, g'⟩ : S46)); (case aB => exact HB); (case aF => exact (fun _ _ => trivial)); (case aO => exact HRw); (case aS => exact HB.size); (case aL => omega); intro v10 w12 ho hb hg hat; rw [← hfx] at ho; have HS := Kd.S_after (ok := (fun _ => True)) (Kd.S_mono HS (fun _ hk => ⟨trivial, hk⟩)) hg hat; have BK6 := blk_grown BK6 hg (Kd.R_ne HRw BK6 (by decide)); have BK7 := blk_grown BK7 hg (Kd.R_ne HRw BK7 (by decide)); have HB := hb))
        | go_in)
       go_wp2
       go_roundw
       case rel => exact ⟨j + 1, by first | rfl | go_num, by omega, by rw [htj.out, List.map_append]; exact ho, Kd.S_mono HS (fun _ hk => hk.2), BK6, BK7, HB⟩
       case measure => simp [intOf]; omega
     ·
      have hjT' : j = T.length := by omega
      subst hjT'
      rw [List.take_of_length_le (Nat.le_refl _)] at HRw
      obtain ⟨RL, hRL⟩ : ∃ L, L = T.map FX := ⟨_, rfl⟩
      rw [← hRL] at HRw
      have hRLl : RL.length ≤ 30 := by rw [hRL, List.length_map]; exact hT30
      obtain ⟨RN, hRN⟩ : ∃ L, L = RL ++ [(⟨13, 0, (-1), (-1), (-1), (-1), 0, 0⟩ : S46)] := ⟨_, rfl⟩
      obtain ⟨LN, hLN⟩ : ∃ L, L = LH ++ [RN] := ⟨_, rfl⟩
      have hRNt : RN = thM (ce + 1) t := by
       rw [hRN, hRL, hFX.out, thM, hT.out]; rfl
      have hLNt : LN = (R.take (q + 1)).map (thM (ce + 1)) := by
       rw [hLN, htk.out, List.map_append, ← hLH.out, hRNt]; rfl
      replace hRNt := Aside0.mk hRNt
      replace hLNt := Aside0.mk hLNt
      replace hRL := Aside0.mk hRL
      have Ny_R := Aside0.mk hRN
      have Ny_L := Aside0.mk hLN
      clear hRN hLN
      have LMc119 : Aside0 (RL.length < 2199023255552) := Aside0.mk (by omega)
      have LMc120 : Aside0 (LH.length < 5864062014805) := Aside0.mk (by omega)
      have NB67 := Aside0.mk hN67
      have NB76 := Aside0.mk hN67.symm
      have GE264 := hG6
      have GE265 := hG7
      go_upto_region 18 with go_in
      have HO_10 := Aside0.mk (Kd.R_drew HRw)
      have HO_S := Aside0.mk (Kd.S_drew HS)
      have BK264 := Aside0.mk (blk_drew BK6)
      have BK265 := Aside0.mk (blk_drew BK7)
      have HB := Aside0.mk (below_drew1 HB)
      clear HRw HS BK6 BK7
      refine start_ (n := 11) (S := fun w' => w'.cell? ⟨B7, 0, none⟩ = some (.int .i64 (sh % (ce + 2))) ∧ w'.cell? ⟨B7, 1, none⟩ = some (.int .i64 (ce + 1)) ∧ w'.cell? ⟨B7, 2, none⟩ = some (u)) (ds := [10]) #[false, false, false, false, false, false, false, false, false, false, false] (by kernel_rfl) rfl rfl ⟨(blk_cell BK265.out 0).trans rfl, (blk_cell BK265.out 1).trans rfl, (blk_cell BK265.out 2).trans rfl⟩ (fun hHeld => ?_); refine with_tabW mkI.tab18 mkI.bits18 (fun HT_ HW_ => ?_)
      generalize wr.drew = w121 at HO_10 HO_S BK264 BK265 HB hHeld ⊢
      refine pure_ (i := 0) (N := some 89) (v := ?_) (a' := ?_) #[true, false, false, false, false, false, false, false, false, false, false] rfl rfl (any_of HT_.out (by kernel_rfl)) (fun _ _ _ h => h) (Or.inl ⟨by rfl, ?_⟩) ?_ ?_
      rotate_left
      ·
       intro w'
       go_simp
       with_reducible rfl
      rotate_left
      ·
       simp only [Act.put, q1_, q2_, q3_, i64_w, i32_w]
       rfl
      refine pure_ (i := 2) (N := some 91) (v := ?_) (a' := ?_) #[true, false, true, false, false, false, false, false, false, false, false] rfl rfl (any_of HT_.out (by kernel_rfl)) (fun _ _ _ h => h) (Or.inl ⟨by rfl, ?_⟩) ?_ ?_
      rotate_left
      ·
       intro w'
       go_simp
       with_reducible rfl
      rotate_left
      ·
       simp only [Act.put, q1_, q2_, q3_, i64_w, i32_w]
       rfl
      refine pure_ (i := 3) (N := some 92) (v := ?_) (a' := ?_) #[true, false, true, true, false, false, false, false, false, false, false] rfl rfl (any_of HT_.out (by kernel_rfl)) (fun _ _ _ h => h) (Or.inl ⟨by rfl, ?_⟩) ?_ ?_
      rotate_left
      ·
       intro w'
       go_simp
       with_reducible rfl
      rotate_left
      ·
       simp only [Act.put, q1_, q2_, q3_, i64_w, i32_w]
       rfl
      refine take_ (i := 1) (N := some 90) (v := ?_) (a' := ?_) #[true, true, true, true, false, false, false, false, false, false, false] rfl rfl (take_ofW HT_.out HW_.out (by kernel_rfl)) (fun _ _ _ h => h) (Or.inl ⟨by rfl, ?_⟩) hHeld ?_ ?_
      rotate_left
      ·
       rintro w' ⟨s0, s1, s2⟩
       go_simp
       with_reducible rfl
      rotate_left
      ·
       simp only [Act.put, q1_, q2_, q3_, i64_w, i32_w]
       rfl
      refine one_ (i := 4) (N := some 93) #[true, true, true, true, true, false, false, false, false, false, false] rfl rfl (one_of HT_.out (by kernel_rfl)) (by decide) (fun K hK => ?_)
      refine goes_ Try.func16 (by kernel_rfl) rfl #[.agg #[.int .i64 13, .int .i64 0, .int .i64 0, .int .i64 0, .int .i64 0, .int .i64 0, .int .u64 0, .int .i64 0]] (by rfl) rfl rfl (by (try simp only [List.map_toArray, List.map_cons, List.map_nil]); first | done | rfl | (simp only [List.length_drop, List.length_take]; rfl)) ?_
      with_reducible refine (encode_Bare.calls kh 13 0 0 0 0 0 0 0 13 0 (-1) (-1) (-1) (-1) 0 0 _ hkh).mono ?_
      rintro e w122 ⟨rfl, hb⟩
      refine ⟨_, rfl, ?_⟩
      have n0_ := Aside0.mk (Kd.R_below (by (with_reducible repeat (first | apply Kd.R_alloc | apply Kd.R_drewN | apply Kd.R_drew)); exact HO_10.out) hb)
      have n1_ := Aside0.mk (Kd.S_below (by (with_reducible repeat (first | apply Kd.S_alloc | apply Kd.S_drewN | apply Kd.S_drew)); exact HO_S.out) hb)
      have n2_ := Aside0.mk (blk_below (g := B6) (o := .cells #[.int .i64 0, .int .i64 0, .slice none 0 0] 25 (0, 0)) (by (with_reducible repeat (first | refine blk_drewN ?_ _ | refine blk_drew ?_ | refine blk_alloc ?_ _)); exact BK264.out) hb)
      have n3_ := Aside0.mk (blk_below (g := B7) (o := .cells #[.int .i64 (sh % (ce + 2)), .int .i64 (ce + 1), u] 25 (0, 0)) (by (with_reducible repeat (first | refine blk_drewN ?_ _ | refine blk_drew ?_ | refine blk_alloc ?_ _)); exact BK265.out) hb)
      have n4_ := Aside0.mk (below_step (by repeat (first | (with_reducible first | exact HB.out | apply below_alloc | apply pw_below_drewN | apply below_drew1 | refine below_set ?_ GE264.out | refine below_set ?_ GE265.out) | exact HB.out)) hb)
      clear HO_10
      clear HO_S
      clear BK264
      clear BK265
      clear HB
      have HO_10 := n0_
      have HO_S := n1_
      have BK264 := n2_
      have BK265 := n3_
      have HB := n4_
      clear n0_ n1_ n2_ n3_ n4_
      (try clear hb)
      (try clear hb2)
      (try clear hk)
      (try clear hi)
      refine hK.out _ _ ⟨(blk_cell BK265.out 0).trans rfl, (blk_cell BK265.out 1).trans rfl, (blk_cell BK265.out 2).trans rfl⟩ (fun hHeld => ?_)
      clear hK K
      refine norm_ (a' := ?_) ?_ ?_
      rotate_left
      ·
       show Act.put _ (some 93) _ = _
       simp only [Act.put, q1_, q2_, q3_, i64_w, i32_w]
       rfl
      refine one_ (i := 5) (N := some 94) #[true, true, true, true, true, true, false, false, false, false, false] rfl rfl (one_of HT_.out (by kernel_rfl)) (by decide) (fun K hK => ?_)
      refine value_ (w1 := ?_) (v := ?_) (by rfl) rfl ?_ ?_
      rotate_left 2
      ·
       go_simp
       constructor
       ·
        rfl
       ·
        rfl
      refine hK.out _ _ ⟨(blk_cell (blk_alloc BK265.out _) 0).trans rfl, (blk_cell (blk_alloc BK265.out _) 1).trans rfl, (blk_cell (blk_alloc BK265.out _) 2).trans rfl⟩ (fun hHeld => ?_)
      clear hK K
      refine norm_ (a' := ?_) ?_ ?_
      rotate_left
      ·
       show Act.put _ (some 94) _ = _
       simp only [Act.put, q1_, q2_, q3_, i64_w, i32_w]
       rfl
      refine one_ (i := 6) (N := some 95) #[true, true, true, true, true, true, true, false, false, false, false] rfl rfl (one_of HT_.out (by kernel_rfl)) (by decide) (fun K hK => ?_)
      refine Kd.R_append_step k46 (w0 := w) w.heap.size (by rfl) (.tmp 91) (.tmp 94) 41 46 (.agg #[(.int .i64 0), (.int .i64 0), (.int .i64 0), (.int .i64 0), (.int .i64 0), (.int .i64 0), (.int .u64 0), (.int .i64 0)]) 64 rfl Try.underlying41 info46 rfl (by decide) (by omega) u10 RL (⟨13, 0, (-1), (-1), (-1), (-1), 0, 0⟩ : S46) [.int .i64 13, .int .i64 0, .int .i64 (-1), .int .i64 (-1), .int .i64 (-1), .int .i64 (-1), .int .u64 0, .int .i64 0] (fun _ => True) (fun _ => False) rfl rfl ?aP (fun _ hk => hk.elim) ?aF ?aO ?aB ?aS ?aL ?_
      (case aP => exact k46_mkM _ _ _ (⟨13, 0, (-1), (-1), (-1), (-1), 0, 0⟩ : S46))
      (case aB => exact (by repeat (first | (with_reducible first | exact HB.out | apply below_alloc | apply pw_below_drewN | apply below_drew1 | refine below_set ?_ GE264.out | refine below_set ?_ GE265.out) | exact HB.out)))
      (case aF => exact (fun _ _ => trivial))
      (case aO => exact (by (with_reducible repeat (first | apply Kd.R_alloc | apply Kd.R_drewN | apply Kd.R_drew)); exact HO_10.out))
      (case aS => exact (below_size (by repeat (first | (with_reducible first | exact HB.out | apply below_alloc | apply pw_below_drewN | apply below_drew1 | refine below_set ?_ GE264.out | refine below_set ?_ GE265.out) | exact HB.out))))
      (case aL => have := LMc119.out; omega)
      intro v309 w123 ho hb hg hat
      rw [← Ny_R.out] at ho
      have n0_ := Aside0.mk (Kd.S_after (ok := (fun _ => True)) (by (with_reducible repeat (first | apply Kd.S_alloc | apply Kd.S_drewN | apply Kd.S_drew)); exact Kd.S_mono HO_S.out (fun _ hk => ⟨trivial, hk⟩)) hg hat)
      have n1_ := Aside0.mk (blk_grown (g := B6) (o := .cells #[.int .i64 0, .int .i64 0, .slice none 0 0] 25 (0, 0)) (by (with_reducible repeat (first | refine blk_drewN ?_ _ | refine blk_drew ?_ | refine blk_alloc ?_ _)); exact BK264.out) hg (Kd.R_ne HO_10.out BK264.out (by decide)))
      have n2_ := Aside0.mk (blk_grown (g := B7) (o := .cells #[.int .i64 (sh % (ce + 2)), .int .i64 (ce + 1), u] 25 (0, 0)) (by (with_reducible repeat (first | refine blk_drewN ?_ _ | refine blk_drew ?_ | refine blk_alloc ?_ _)); exact BK265.out) hg (Kd.R_ne HO_10.out BK265.out (by decide)))
      have n3_ := Aside0.mk (hb)
      have n4_ := Aside0.mk (ho)
      clear HO_S
      clear BK264
      clear BK265
      clear HB
      clear HO_10
      have HO_S := n0_
      have BK264 := n1_
      have BK265 := n2_
      have HB := n3_
      have HO310 := n4_
      clear n0_ n1_ n2_ n3_ n4_
      clear ho hb hg hat
      obtain ⟨Ao125, co125, eo125⟩ := Kd.R_slice HO310.out
      (first | subst eo125 | (injection eo125 with f1_ f2_ f3_; have f4_ := f1_.symm; have f5_ := f3_.symm; clear f1_ f2_ f3_; subst f4_; subst f5_))
      refine hK.out _ _ ⟨(blk_cell BK265.out 0).trans rfl, (blk_cell BK265.out 1).trans rfl, (blk_cell BK265.out 2).trans rfl⟩ (fun hHeld => ?_)
      clear hK K
      refine norm_ (a' := ?_) ?_ ?_
      rotate_left
      ·
       show Act.put _ (some 95) _ = _
       simp only [Act.put, q1_, q2_, q3_, i64_w, i32_w]
       rfl
      refine one_ (i := 7) (N := some 96) #[true, true, true, true, true, true, true, true, false, false, false] rfl rfl (one_of HT_.out (by kernel_rfl)) (by decide) (fun K hK => ?_)
      refine value_ (w1 := ?_) (v := ?_) (by rfl) rfl ?_ ?_
      rotate_left 2
      ·
       go_simp
       constructor
       ·
        rfl
       ·
        rfl
      refine hK.out _ _ ⟨(blk_cell (blk_alloc BK265.out _) 0).trans rfl, (blk_cell (blk_alloc BK265.out _) 1).trans rfl, (blk_cell (blk_alloc BK265.out _) 2).trans rfl⟩ (fun hHeld => ?_)
      clear hK K
      refine norm_ (a' := ?_) ?_ ?_
      rotate_left
      ·
       show Act.put _ (some 96) _ = _
       simp only [Act.put, q1_, q2_, q3_, i64_w, i32_w]
       rfl
      refine one_ (i := 8) (N := some 97) #[true, true, true, true, true, true, true, true, true, false, false] rfl rfl (one_of HT_.out (by kernel_rfl)) (by decide) (fun K hK => ?_)
      refine Kd.S_append_step (Kd.slice 46 k46) (w0 := w) w.heap.size (by rfl) (.tmp 90) (.tmp 96) 22 41 (.slice none 0 0) 24 rfl Try.underlying22 info41 rfl (by decide) (by omega) u LH RN [.slice Ao125 RN.length co125] (fun _ => True) (fun k_ => some k_ = (.slice Ao125 RN.length co125 : Value).ownBlock) rfl rfl ?aP (fun k_ hk_ => ((Kd.R_mono (ok' := fun k_ => ((fun _ => True)) k_ ∧ some k_ ≠ (u : Value).ownBlock) (Kd.R_apart' (HO310.out) (Kd.S_typed HO_S.out) (by decide)) (fun k_ hk => ⟨trivial, hk.2⟩))).1 k_ hk_.symm) ?aF ?aO ?aB ?aS ?aL ?_
      (case aP => exact Kd.M_row (Kd.R_mono (Kd.R_tight rfl (Kd.R_mono (ok' := fun k_ => ((fun _ => True)) k_ ∧ some k_ ≠ (u : Value).ownBlock) (Kd.R_apart' (HO310.out) (Kd.S_typed HO_S.out) (by decide)) (fun k_ hk => ⟨trivial, hk.2⟩))) (fun _ h_ => h_)))
      (case aB => exact (by repeat (first | (with_reducible first | exact HB.out | apply below_alloc | apply pw_below_drewN | apply below_drew1 | refine below_set ?_ GE264.out | refine below_set ?_ GE265.out) | exact HB.out)))
      (case aF => exact (fun _ _ => trivial))
      (case aO => exact (by (with_reducible repeat (first | apply Kd.S_alloc | apply Kd.S_drewN | apply Kd.S_drew)); exact Kd.S_mono HO_S.out (fun k_ hk => ⟨trivial, fun e_ => hk.2 e_⟩)))
      (case aS => exact (below_size (by repeat (first | (with_reducible first | exact HB.out | apply below_alloc | apply pw_below_drewN | apply below_drew1 | refine below_set ?_ GE264.out | refine below_set ?_ GE265.out) | exact HB.out))))
      (case aL => have := LMc120.out; omega)
      intro v312 w124 ho hb hg hat
      rw [← Ny_L.out] at ho
      have n0_ := Aside0.mk (blk_grown (g := B6) (o := .cells #[.int .i64 0, .int .i64 0, .slice none 0 0] 25 (0, 0)) (by (with_reducible repeat (first | refine blk_drewN ?_ _ | refine blk_drew ?_ | refine blk_alloc ?_ _)); exact BK264.out) hg (Kd.S_ne HO_S.out BK264.out (by decide)))
      have n1_ := Aside0.mk (blk_grown (g := B7) (o := .cells #[.int .i64 (sh % (ce + 2)), .int .i64 (ce + 1), u] 25 (0, 0)) (by (with_reducible repeat (first | refine blk_drewN ?_ _ | refine blk_drew ?_ | refine blk_alloc ?_ _)); exact BK265.out) hg (Kd.S_ne HO_S.out BK265.out (by decide)))
      have n2_ := Aside0.mk (hb)
      have n3_ := Aside0.mk (ho)
      clear BK264
      clear BK265
      clear HB
      clear HO_S
      clear HO310
      have BK264 := n0_
      have BK265 := n1_
      have HB := n2_
      have HO313 := n3_
      clear n0_ n1_ n2_ n3_
      clear ho hb hg hat
      obtain ⟨Ao126, co126, eo126⟩ := Kd.S_slice HO313.out
      (first | subst eo126 | (injection eo126 with f1_ f2_ f3_; have f4_ := f1_.symm; have f5_ := f3_.symm; clear f1_ f2_ f3_; subst f4_; subst f5_))
      refine hK.out _ _ ⟨(blk_cell BK265.out 0).trans rfl, (blk_cell BK265.out 1).trans rfl, (blk_cell BK265.out 2).trans rfl⟩ (fun hHeld => ?_)
      clear hK K
      refine norm_ (a' := ?_) ?_ ?_
      rotate_left
      ·
       show Act.put _ (some 97) _ = _
       simp only [Act.put, q1_, q2_, q3_, i64_w, i32_w]
       rfl
      refine pure_ (i := 9) (N := some 98) (v := ?_) (a' := ?_) #[true, true, true, true, true, true, true, true, true, true, false] rfl rfl (any_of HT_.out (by kernel_rfl)) (fun _ _ _ h => h) (Or.inl ⟨by rfl, ?_⟩) ?_ ?_
      rotate_left
      ·
       intro w'
       go_simp
       with_reducible rfl
      rotate_left
      ·
       simp only [Act.put, q1_, q2_, q3_, i64_w, i32_w]
       rfl
      refine last_ (i := 10) (N := none) #[true, true, true, true, true, true, true, true, true, true, true] rfl rfl (one_of HT_.out (by kernel_rfl)) (by decide) (fun K hK => ?_)
      have hs127 : w124.cell? ⟨B7, 2, none⟩ = some (u) := (blk_cell BK265.out 2).trans rfl
      have hfs127 := blk_frozen BK265.out 2
      have hns127_0 := NB67.out
      have hms127_0 := NB76.out
      refine skip_ (w1 := ?_) (by rfl) rfl ?_ ?_
      rotate_left
      ·
       go_simp
       rfl
      refine hK.out _ _ ?_
      clear hK K
      refine done_ (done_of HT_.out (by kernel_rfl)) ?_
      try go_wp2
      go_roundw
      case rel => exact ⟨q + 1, _, by first | rfl | go_num, by omega, by omega, by rw [← hLNt.out]; (with_reducible repeat (first | apply Kd.S_alloc | apply Kd.S_drewN | apply Kd.S_drew)); exact Kd.S_mono (Kd.S_far (p := ⟨B7, 2, none⟩) (Kd.S_types HO313.out BK265.out (by decide)) (fun _ hk => hk.2) (.slice Ao126 LN.length co126)) (fun _ hk => trivial), by (with_reducible repeat (first | refine blk_drewN ?_ _ | refine blk_drew ?_ | refine blk_alloc ?_ _)); refine blk_far ?_ NB67.out _; (with_reducible repeat (first | refine blk_drewN ?_ _ | refine blk_drew ?_ | refine blk_alloc ?_ _)); exact BK264.out, by (with_reducible repeat (first | refine blk_drewN ?_ _ | refine blk_drew ?_ | refine blk_alloc ?_ _)); refine blk_put (cs := #[.int .i64 (sh % (ce + 2)), .int .i64 (ce + 1), u]) ?_ 2 _ rfl; (with_reducible repeat (first | refine blk_drewN ?_ _ | refine blk_drew ?_ | refine blk_alloc ?_ _)); exact BK265.out, by repeat (first | (with_reducible first | exact HB.out | apply below_alloc | apply pw_below_drewN | apply below_drew1 | refine below_set ?_ GE264.out | refine below_set ?_ GE265.out) | exact HB.out)⟩
      case measure => simp [intOf]; omega
  ·
   have x70 := blk_cell BK7 0
   have x71 := blk_cell BK7 1
   have x72 := blk_cell BK7 2
   have x60 := blk_cell BK6 0
   have x61 := blk_cell BK6 1
   have x62 := blk_cell BK6 2
   have f70 := blk_frozen BK7 0
   have f71 := blk_frozen BK7 1
   have f72 := blk_frozen BK7 2
   have f60 := blk_frozen BK6 0
   have f61 := blk_frozen BK6 1
   have f62 := blk_frozen BK6 2
   have hN76 := hN67.symm
   have HF : (R.take q).map (thM (ce + 1)) = (R.take 16).map (thM (ce + 1)) := by
    first | rfl | rw [List.take_of_length_le (show R.length ≤ q by omega), List.take_of_length_le (show R.length ≤ 16 by omega)]
   rw [HF] at HS
   clear HF
   generalize hLF : (R.take 16).map (thM (ce + 1)) = LF at HS
   replace hLF := Aside0.mk hLF
   obtain ⟨Ao, co, eo⟩ := Kd.S_slice HS
   subst eo
   go_wp2
   refine bodyPost_ret (results_cell_row rfl _ _ B6 25 #[.int .i64 (sh % (ce + 2)), .int .i64 (ce + 1), .slice Ao LF.length co] (0, 0) _ rfl (by (with_reducible repeat (first | refine blk_drewN ?_ _ | refine blk_drew ?_ | refine blk_alloc ?_ _)); refine blk_put (cs := #[.int .i64 (sh % (ce + 2)), .int .i64 (ce + 1), .slice none 0 0]) ?_ 2 _ rfl; (with_reducible repeat (first | refine blk_drewN ?_ _ | refine blk_drew ?_ | refine blk_alloc ?_ _)); refine blk_put (cs := #[.int .i64 (sh % (ce + 2)), .int .i64 0, .slice none 0 0]) ?_ 1 _ rfl; (with_reducible repeat (first | refine blk_drewN ?_ _ | refine blk_drew ?_ | refine blk_alloc ?_ _)); refine blk_put (cs := #[.int .i64 0, .int .i64 0, .slice none 0 0]) ?_ 0 _ rfl; (with_reducible repeat (first | refine blk_drewN ?_ _ | refine blk_drew ?_ | refine blk_alloc ?_ _)); exact BK6) Try.underlying25 rfl (by kernel_rfl)) rfl ?_
   refine ⟨_, rfl, ?_, ?_⟩
   ·
    rw [hLF.out]; (with_reducible repeat (first | apply Kd.S_alloc | apply Kd.S_drewN | apply Kd.S_drew)); exact Kd.S_mono (Kd.S_far (p := ⟨B6, 2, none⟩) (Kd.S_far (p := ⟨B6, 1, none⟩) (Kd.S_far (p := ⟨B6, 0, none⟩) (Kd.S_types HS BK6 (by decide)) (fun _ hk => hk.2) (.int .i64 (sh % (ce + 2)))) (fun _ hk => hk.2) (.int .i64 (ce + 1))) (fun _ hk => hk.2) (.slice Ao LF.length co)) (fun _ hk => trivial)
   ·
    repeat (first | (with_reducible first | exact HB | apply below_alloc | apply pw_below_drewN | apply below_drew1 | refine below_set ?_ hG6.out | refine below_set ?_ hG7.out) | exact HB)
end Go.Proofs.Yteajbeajkplplaa.Pure
