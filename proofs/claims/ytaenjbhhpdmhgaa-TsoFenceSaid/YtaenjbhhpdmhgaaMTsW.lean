/-
A fence waits until all writes of its thread are seen: the law TsoFence, walked. Conditions: as each theorem states them.
-/
import Derived.Test.YtaenjbhhpdmhgaaMTsV
set_option linter.unusedVariables false
set_option linter.unusedSimpArgs false
namespace Go.Proofs.Ytaenjbhhpdmhgaa.Tso
open Go.RowKit Go.Proofs.YtaenjbhhpdmhgaaW.PrintWords Go.Proofs.YtaenjbhhpdmhgaaW.PrintLast Go.Proofs.YtaenjbhhpdmhgaaW.PrintMore
open Go.Proofs.Ytaenjbhhpdmhgaa.Kit
open Go.Proofs.Ytaenjbhhpdmhgaa.PTsoScript
theorem info28z : (Try.prog.info? 28).map (fun i => (i.zero, i.size, i.bytes)) = some (some (.agg #[.int .i64 0, .int .i64 0, .int .i64 0, .int .i64 0, .int .i64 0, .int .i64 0, .int .u64 0, .int .i64 0]), 8, 64) := by kernel_rfl
set_option maxHeartbeats 8000000 in
set_option maxRecDepth 100000 in
theorem tsoFence.calls (V : Option Addr) (cv : Nat) (l : List Int) (f : Int) (w : World) (hC : Kd.C kU w V l.length l) (hcv : l.length ≤ cv) (hlm : l.length ≤ maxLen) (hb : ∀ x ∈ l, 0 ≤ x ∧ x ≤ 18446744073709551615) (hf : 0 ≤ f ∧ f ≤ 255) :
    Calls Try.prog 5 #[.slice V l.length cv, .int .u8 f] w fun e w' => e = .returned (.bool true) ∧ Below w.heap.size w w' := by
  have TA := awake.calls w
  unfold maxLen at hlm
  replace hC := Aside0.mk hC
  replace hb := Aside0.mk hb
  go_enter Try.func5, Try.ntmps5
  go_upto_region 4 with (first
    | (go_at_call 9; refine TA.mono ?_; rintro e w0 ⟨rfl, hb0⟩)
    | go_in)
  obtain ⟨n, hn, hn8, hnl⟩ : ∃ n : Nat, (if (8 : Int) < (l.length : Int) then (8 : Int) else (l.length : Int)) = n ∧ n ≤ 8 ∧ n ≤ l.length := ⟨min l.length 8, by split <;> omega, by omega, by omega⟩
  rw [hn]
  clear hn TA
  go_wp2
  go_loopw [6, 24] (fun v6 v24 wr' => ∃ (j : Nat), v24 = .int .i64 j ∧ j ≤ n ∧ Kd.R k28 28 wr' w.heap.size (fun _ => True) v6 (rawF l j) ∧ Below w.heap.size w wr')
    (fun _ v24 _ => n - (intOf v24).toNat)
  case atStart => exact ⟨0, rfl, by omega, Kd.R_nil _ _ _ _ _, hb0⟩
  case round =>
    clear hb0
    obtain ⟨j, rfl, hjn, hR, HB⟩ := hrel
    by_cases hj : j < n
    · obtain ⟨_, _, hrd⟩ := Kd.reads_of_C (enc := Value.int .u64) (d := (0 : Int)) (h1 := fun _ => rfl) hC.out
      obtain ⟨ad, rfl, hc⟩ := hrd (by omega)
      have xz := hc j (by omega)
      have xr := (HB.cell (World.block_lt_of_cell? w _ xz)).trans xz
      obtain ⟨p, hp⟩ : ∃ p, p = l.getD j 0 := ⟨_, rfl⟩
      rw [← hp] at xr
      have hsucc : rawF l (j + 1) = rawF l j ++ [setC p, putC j] := by rw [hp]; rfl
      have hlen := rawF_len l j
      have hpb : 0 ≤ p ∧ p ≤ 18446744073709551615 := by rw [hp]; exact hb.out _ (by rw [getD_at (by omega)]; exact List.getElem_mem _)
      replace hp := Aside0.mk hp
      replace hsucc := Aside0.mk hsucc
      clear hc hrd xz
      generalize rawF l j = XS at hR hsucc hlen
      replace hlen := Aside0.mk hlen
      go_upto_region 9 with (first
        | ((with_reducible refine gate_dst (N := 35) rfl ?_); go_loud (refine Kd.R_lit k28 (w0 := w) w.heap.size 28 rfl (N := 35) rfl (xs := [setC p, putC j]) (inner := [setC p, putC j].flatMap cells28) (ok := fun _ => True) (okp := fun _ => True) (by go_simp; first | rfl | exact ⟨rfl, rfl⟩) (reps28 _ _ _ _) (fun _ h => h) trivial HB HB.size (by show 2 ≤ _; omega) ?_; intro v1 w1 hR1 hb1 hg1 hn1; obtain ⟨g1, cg1, rfl, hgb1, hgl1, hcg1, cells1, hgh1⟩ := R_form2 hR1 hn1; rw [show [setC p, putC j].length = 2 from rfl] at hR1 ⊢; have hRo := Kd.R_grown hR hg1 (fun _ _ h => by cases h); have HC1 := (Kd.R_reads' hR1).2.2; clear hgb1 hgl1 hcg1 cells1 hgh1))
        | (at_builtin; go_loud (refine Kd.R_append_rows k28 (w0 := w) w.heap.size rfl (.tmp 29) (.tmp 35) 29 28 (.agg #[.int .i64 0, .int .i64 0, .int .i64 0, .int .i64 0, .int .i64 0, .int .i64 0, .int .u64 0, .int .i64 0]) 64 rfl Try.underlying29 info28z rfl (by decide) (by omega) _ XS [setC p, putC j] (some ⟨g1, 0, none⟩) 2 cg1 (fun _ => True) (fun _ => False) rfl rfl hRo HC1 (fun _ _ h => h) (fun _ h => h.elim) (fun _ _ => trivial) hb1 hb1.size (by rw [hlen.out]; omega) ?_; intro v4 w4 hR4 HB4 hg4 hat4; rw [← hsucc.out] at hR4))
        | go_in)
      clear hat4 hg4 hRo HC1 hR1 hb1 hg1 hn1 hR HB xr
      go_wp2
      go_roundw
      case rel => exact ⟨j + 1, by first | rfl | go_num, by omega, hR4, HB4⟩
      case measure => simp [intOf]; omega
    · obtain rfl : n = j := by omega
      have hlen := rawF_len l n
      obtain ⟨X, hX⟩ : ∃ X, X = rawF l n ++ endF := ⟨_, rfl⟩
      have hXl2 : X.length = 2 * n + 2 := by rw [hX, List.length_append, hlen]; rfl
      obtain ⟨m, hm⟩ : ∃ m, m = 2 * n + 2 := ⟨_, rfl⟩
      have hm18 : m ≤ 18 := by omega
      have hm1 : 0 < m := by omega
      have hm2 : m ≤ 9223372036854775807 := by omega
      rw [← hm] at hXl2
      have hXl := Aside0.mk hXl2
      have hm0 := Aside0.mk hm
      have hX0 := Aside0.mk hX
      generalize rawF l n = XS at hR hlen hX
      replace hlen := Aside0.mk hlen
      replace hX := Aside0.mk hX
      clear hXl2 hm
      go_upto_region 11 with (first
        | ((with_reducible refine gate_dst (N := 41) rfl ?_); go_loud (refine Kd.R_lit k28 (w0 := w) w.heap.size 28 rfl (N := 41) rfl (xs := endF) (inner := endF.flatMap cells28) (ok := fun _ => True) (okp := fun _ => True) (by go_simp; first | rfl | exact ⟨rfl, rfl⟩) (reps28 _ _ _ _) (fun _ h => h) trivial HB HB.size (by show 2 ≤ _; omega) ?_; intro v1 w1 hR1 hb1 hg1 hn1; obtain ⟨g1, cg1, rfl, hgb1, hgl1, hcg1, cells1, hgh1⟩ := R_form2 hR1 hn1; rw [show endF.length = 2 from rfl] at hR1 ⊢; have hRo := Kd.R_grown hR hg1 (fun _ _ h => by cases h); have HC1 := (Kd.R_reads' hR1).2.2; clear hgb1 hgl1 hcg1 cells1 hgh1))
        | (at_builtin; go_loud (refine Kd.R_append_rows k28 (w0 := w) w.heap.size rfl (.tmp 38) (.tmp 41) 29 28 (.agg #[.int .i64 0, .int .i64 0, .int .i64 0, .int .i64 0, .int .i64 0, .int .i64 0, .int .u64 0, .int .i64 0]) 64 rfl Try.underlying29 info28z rfl (by decide) (by omega) _ XS endF (some ⟨g1, 0, none⟩) 2 cg1 (fun _ => True) (fun _ => False) rfl rfl hRo HC1 (fun _ _ h => h) (fun _ h => h.elim) (fun _ _ => trivial) hb1 hb1.size (by rw [hlen.out]; omega) ?_; intro v4 w4 hR4 HB4 hg4 hat4; rw [← hX.out] at hR4; obtain ⟨g, cg, rfl, hgb, hgl, _⟩ := Kd.R_form hR4 (by rw [hXl.out]; exact hm1); rw [hXl.out] at hR4 ⊢))
        | go_in)
      clear hat4 hg4 hRo HC1 hR1 hb1 hg1 hn1 hR HB hlen hX
      have hR1 := hR4
      have hb1 := HB4
      clear hR4 HB4 hgl
      go_wp2
      go_loopw [45] (fun vi wr' => ∃ j : Nat, vi = .int .i64 j ∧ j ≤ m ∧ Kd.R k28 28 wr' w.heap.size (fun _ => True) (.slice (some ⟨g, 0, none⟩) m cg) (mixS X j) ∧ Below w.heap.size w wr')
        (fun vi _ => m - (intOf vi).toNat)
      case atStart => exact ⟨0, rfl, by omega, by rw [mixS_zero]; exact hR1, hb1⟩
      case round =>
        clear hR1 hb1
        obtain ⟨j, rfl, hjL, hR, HB⟩ := hrel
        by_cases hj5 : j < m
        · have hj : j < X.length := by rw [hXl.out]; exact hj5
          obtain ⟨hl1, hcg, hC⟩ := Kd.R_reads' hR
          obtain ⟨ad, ead, x0, x1, x2, x3, x4, x5, x6, x7⟩ := at_T28 hC (j : Int) (by omega) (by rw [mixS_len]; omega)
          obtain rfl := Option.some.inj ead
          have hadd := add_zero g
          rw [mixS_at X j hj, Int.toNat_natCast, hadd] at x0 x1 x2 x3 x4 x5 x6 x7
          dsimp only at x1 x2 x3 x4 x5 x6 x7
          have hset := mixS_set X j hj
          generalize X[j] = x at x0 x1 x2 x3 x4 x5 x6 x7 hset
          replace hset := Aside0.mk hset
          replace hl1 := Aside0.mk hl1
          replace hj := Aside0.mk hj
          have y0 := x0; have y1 := x1; have y2 := x2; have y3 := x3; have y4 := x4; have y5 := x5; have y6 := x6; have y7 := x7
          clear ead hadd hC
          go_upto_region 14 with go_in
          have e7 := heap_alloc_new wr (Obj.cells #[.int .i64 x.f0, .int .i64 x.f1, .int .i64 x.f2, .int .i64 x.f3, .int .i64 x.f4, .int .i64 x.f5, .int .u64 x.f6, .int .i64 x.f7] 28 (0, 0))
          have hb7 : Below wr.heap.size wr (wr.alloc (Obj.cells #[.int .i64 x.f0, .int .i64 x.f1, .int .i64 x.f2, .int .i64 x.f3, .int .i64 x.f4, .int .i64 x.f5, .int .u64 x.f6, .int .i64 x.f7] 28 (0, 0))) := below_alloc (Below.refl _ _) _
          generalize wr.alloc (Obj.cells #[.int .i64 x.f0, .int .i64 x.f1, .int .i64 x.f2, .int .i64 x.f3, .int .i64 x.f4, .int .i64 x.f5, .int .u64 x.f6, .int .i64 x.f7] 28 (0, 0)) = w7 at e7 hb7 ⊢
          have hR := Kd.R_below hR hb7
          have HB := HB.trans (hb7.mono HB.size)
          generalize wr.heap.size = B7 at e7 ⊢
          clear x0 x1 x2 x3 x4 x5 x6 x7 y0 y1 y2 y3 y4 y5 y6 y7 hb7
          have y0 : w7.cell? ⟨B7, 0, none⟩ = some (.int .i64 x.f0) := (blk_cell e7 0).trans rfl
          have y1 : w7.cell? ⟨B7, 1, none⟩ = some (.int .i64 x.f1) := (blk_cell e7 1).trans rfl
          have y2 : w7.cell? ⟨B7, 2, none⟩ = some (.int .i64 x.f2) := (blk_cell e7 2).trans rfl
          have y3 : w7.cell? ⟨B7, 3, none⟩ = some (.int .i64 x.f3) := (blk_cell e7 3).trans rfl
          have y4 : w7.cell? ⟨B7, 4, none⟩ = some (.int .i64 x.f4) := (blk_cell e7 4).trans rfl
          have y5 : w7.cell? ⟨B7, 5, none⟩ = some (.int .i64 x.f5) := (blk_cell e7 5).trans rfl
          have y6 : w7.cell? ⟨B7, 6, none⟩ = some (.int .u64 x.f6) := (blk_cell e7 6).trans rfl
          have y7 : w7.cell? ⟨B7, 7, none⟩ = some (.int .i64 x.f7) := (blk_cell e7 7).trans rfl
          have TB := bareX_calls x w7
          have hjm : j < (mixS X j).length := by rw [mixS_len]; exact hj.out
          go_upto_region 15 with (first
            | (go_at_call 10; refine TB.mono ?_; rintro e w8 ⟨rfl, hb8⟩; have hR := Kd.R_below hR hb8; have HB := HB.trans (hb8.mono HB.size); obtain ⟨cs, hcl, hcc, hMM⟩ := row28_at hR j hjm (bareX x); obtain ⟨x0, x1, x2, x3, x4, x5, x6, x7⟩ := row28_cells hR j hjm; obtain ⟨cur, hcur⟩ := Kd.R_typed hR g rfl; have f0 := blk_frozen hcur (j * 8); have f1 := blk_frozen hcur (j * 8 + 1); have f2 := blk_frozen hcur (j * 8 + 2); have f3 := blk_frozen hcur (j * 8 + 3); have f4 := blk_frozen hcur (j * 8 + 4); have f5 := blk_frozen hcur (j * 8 + 5); have f6 := blk_frozen hcur (j * 8 + 6); have f7 := blk_frozen hcur (j * 8 + 7))
            | go_in)
          obtain ⟨hrow, hgr⟩ := Kd.R_seg hR (j : Int) (by omega) (by omega) hcl hcc (Nat.le_refl 8) hMM (fun _ h => h.elim)
          have HB9 := HB.grown hgr HB.size (fun k hk => by have := Option.some.inj hk; omega)
          rw [Int.toNat_natCast, hset.out] at hrow
          rw [Int.toNat_natCast] at HB9
          rw [show (World.setCell (World.setCell (World.setCell (World.setCell (World.setCell (World.setCell (World.setCell (World.setCell w8 ⟨g, j * 8, none⟩ (.int .i64 (bareX x).f0)) ⟨g, j * 8 + 1, none⟩ (.int .i64 (bareX x).f1)) ⟨g, j * 8 + 2, none⟩ (.int .i64 (bareX x).f2)) ⟨g, j * 8 + 3, none⟩ (.int .i64 (bareX x).f3)) ⟨g, j * 8 + 4, none⟩ (.int .i64 (bareX x).f4)) ⟨g, j * 8 + 5, none⟩ (.int .i64 (bareX x).f5)) ⟨g, j * 8 + 6, none⟩ (.int .u64 (bareX x).f6)) ⟨g, j * 8 + 7, none⟩ (.int .i64 (bareX x).f7)) = w8.setCells g (j * 8 + 0) (cells28 (bareX x)) from rfl]
          have hrow' : Kd.R k28 28 (w8.setCells g (j * 8 + 0) (cells28 (bareX x))) w.heap.size (fun _ => True) (.slice (some ⟨g, 0, none⟩) m cg) (mixS X (j + 1)) := hrow
          have HB9' : Below w.heap.size w (w8.setCells g (j * 8 + 0) (cells28 (bareX x))) := HB9
          generalize w8.setCells g (j * 8 + 0) (cells28 (bareX x)) = w9 at hrow' HB9' ⊢
          clear hrow HB9 hgr hMM hcc hcl x0 x1 x2 x3 x4 x5 x6 x7 f0 f1 f2 f3 f4 f5 f6 f7 hcur y0 y1 y2 y3 y4 y5 y6 y7 e7 TB hR HB hb8
          go_wp2
          go_roundw
          case rel => exact ⟨j + 1, by first | rfl | go_num, by omega, hrow', HB9'⟩
          case measure => simp [intOf]; omega
        · have hjj : j = X.length := by rw [hXl.out]; omega
          have hR' : Kd.R k28 28 wr w.heap.size (fun _ => True) (.slice (some ⟨g, 0, none⟩) m cg) (X.map bareX) := by rw [← mixS_all, ← hjj]; exact hR
          replace hjj := Aside0.mk hjj
          clear hR
          have hX2 : X.map bareX = fenX l n := by rw [hX0.out]; rfl
          have hRX : Kd.R k28 28 wr w.heap.size (fun _ => True) (.slice (some ⟨g, 0, none⟩) m cg) (fenX l n) := by rw [hX2] at hR'; exact hR'
          have hfl : (fenX l n).length = m := by rw [fenX_len, hm0.out]
          have hfin : (fenX l n).length ≤ 9223372036854775807 := by rw [hfl]; exact hm2
          have him := fenX_im l n hn8
          have hIN := fen_init l n
          have TOF := fun (V : Option Addr) (c : Nat) (wx : World) (h : Kd.C (Kd.slice 28 k28) wx V 1 [fenX l n]) (hc : 1 ≤ c) => of.calls 8 8 [fenX l n] V c none 0 [] wx h hc (fun t ht => by rw [List.mem_singleton.mp ht]; exact hfin) him (Kd.C_nil _ _)
          clear hR' hX2
          replace hfl := Aside0.mk hfl
          replace him := Aside0.mk him
          replace hIN := Aside0.mk hIN
          generalize hFX : fenX l n = FX at hRX TOF
          replace hFX := Aside0.mk hFX
          go_upto_region 17 with (first
            | ((with_reducible refine gate_dst (N := 58) rfl ?_); go_loud (refine Kd.R_lit (Kd.slice 28 k28) (w0 := w) w.heap.size 29 rfl (N := 58) rfl (xs := [FX]) (inner := [.slice (some ⟨g, 0, none⟩) m cg]) (ok := fun _ => True) (okp := fun _ => True) (by go_simp; first | done | rfl) (Reps.one ⟨_, rfl, hRX⟩ (Reps.none _ _)) (fun _ h => h) trivial HB HB.size (by show 1 ≤ _; omega) ?_; intro v3 w3 hR3 hb3 hg3 hn3; obtain ⟨g3, cg3, rfl, hgb3, hgl3, hcg3, cells3, hgh3⟩ := R_form2 hR3 hn3; rw [show [FX].length = 1 from rfl] at hR3 hcg3 ⊢; have TO := TOF (some ⟨g3, 0, none⟩) cg3 w3 (Kd.R_reads' hR3).2.2 hcg3))
            | (go_at_call 11; go_loud (refine TO.mono ?_; rintro e w4 ⟨mb, ts, cv4, pv, rfl, hM, hb4⟩))
            | go_in)
          have HB4 := hb3.trans (hb4.mono hb3.size)
          have hBW : w3.heap.size ≤ w4.heap.size := hb4.size
          have hw3 : w.heap.size ≤ w3.heap.size := hb3.size
          clear TO TOF hb4 hb3 hg3 hn3 hgh3 hcg3 hgl3 hgb3 cells3 hR3 hRX HB
          generalize w3.heap.size = base at hM hBW hw3
          have htl : Aside0 (ts.length = 1) := Aside0.mk hM.len
          have hI := hIN.out
          rw [hFX.out] at hI
          replace hM : Mach w4 base mb (fun _ => 0) ts cv4 pv ⟨firstS 8 8 [], [initThr FX], 0⟩ := hM
          generalize (⟨firstS 8 8 [], [initThr FX], 0⟩ : Mch) = M0 at hM hI
          obtain ⟨n2, hn2⟩ : ∃ n2, n2 = 2 * n := ⟨_, rfl⟩
          have hn2c : 2 * (n : Int) = (n2 : Int) := by omega
          have hn2b : n2 ≤ 16 := by omega
          replace hn2 := Aside0.mk hn2
          go_upto_region 20 with go_in
          go_loopw [67] (fun v67 wr' => ∃ (j : Nat) (M : Mch) (col : Nat → Nat) (cv2 : Value), v67 = .int .i64 j ∧ j ≤ n2 ∧ Mach wr' base mb col ts cv2 pv M ∧ FenM l n M j ∧ base ≤ wr'.heap.size ∧ Below w.heap.size w wr')
            (fun v67 _ => n2 - (intOf v67).toNat)
          case atStart => exact ⟨0, M0, _, _, rfl, by omega, hM, hI, hBW, HB4⟩
          case round =>
            clear hM hI hBW HB4
            obtain ⟨j, M, col, cv2, rfl, hjl, hM, hI, hBW, HB⟩ := hrel
            by_cases hj : j < n2
            · obtain ⟨hfit, hI'⟩ := fen_step (fun x hx => ⟨(hb.out x hx).1, by have := (hb.out x hx).2; omega⟩) hn8 hI (by rw [← hn2.out]; exact hj)
              have T0 : Calls Try.prog 12 #[.pointer (some ⟨mb, 0, none⟩), .int .i64 0] wr _ := stepF.calls base mb 0 col ts cv2 pv M wr hM (by rw [htl.out]; decide) hBW hfit
              replace hI' := Aside0.mk hI'
              replace hfit := Aside0.mk hfit
              clear hI
              go_wp2_with (first
                | (go_at_call 12; refine T0.mono ?_; rintro e w6 ⟨rfl, hk6, col6, cv6, hc6, hM6⟩)
                | go_in)
              go_roundw
              case rel => exact ⟨j + 1, _, _, _, by first | rfl | go_num, by omega, hM6, hI'.out, Nat.le_trans hBW hk6.size, HB.trans ((hk6.low hBW).mono hw3)⟩
              case measure => simp [intOf]; omega
            · obtain rfl : n2 = j := by omega
              have hIW : FenW l n M 0 := fen_all (by rw [← hn2.out]; exact hI)
              clear hI
              obtain ⟨q, hq, hqn⟩ : ∃ q : Nat, f % ((n : Int) + 1) = q ∧ q ≤ n := by
                have h1 := Int.emod_nonneg f (show ((n : Int) + 1) ≠ 0 by omega)
                have h2 := Int.emod_lt_of_pos f (show 0 < ((n : Int) + 1) by omega)
                exact ⟨(f % ((n : Int) + 1)).toNat, by omega, by omega⟩
              go_upto_region 24 with go_in
              rw [hq]
              replace hq := Aside0.mk hq
              go_upto_region 25 with go_in
              go_loopw [78] (fun v78 wr' => ∃ (j : Nat) (M : Mch) (col : Nat → Nat) (cv2 : Value), v78 = .int .i64 j ∧ j ≤ q ∧ Mach wr' base mb col ts cv2 pv M ∧ FenW l n M j ∧ base ≤ wr'.heap.size ∧ Below w.heap.size w wr')
                (fun v78 _ => q - (intOf v78).toNat)
              case atStart => exact ⟨0, M, _, _, rfl, by omega, hM, hIW, hBW, HB⟩
              case round =>
                clear hM hIW hBW HB
                obtain ⟨i, M, col, cv2, rfl, hil, hM, hI, hBW, HB⟩ := hrel
                by_cases hi : i < q
                · have hI' := fen_flush hI (by omega)
                  have T0 : Calls Try.prog 13 #[.pointer (some ⟨mb, 0, none⟩), .int .i64 0] _ _ := flushF.calls base mb 0 col ts cv2 pv M _ hM (by rw [htl.out]; decide) hBW (fen_wr hn8 hI)
                  replace hI' := Aside0.mk hI'
                  clear hI
                  go_wp2_with (first
                    | (go_at_call 13; refine T0.mono ?_; rintro e w6 ⟨rfl, hk6, col6, cv6, hc6, hM6⟩)
                    | go_in)
                  go_roundw
                  case rel => exact ⟨i + 1, _, _, _, by first | rfl | go_num, by omega, hM6, hI'.out, Nat.le_trans hBW hk6.size, HB.trans ((hk6.low hBW).mono hw3)⟩
                  case measure => simp [intOf]; omega
                · obtain rfl : q = i := by omega
                  obtain ⟨hfit, M', kind, hit, t', hst, hthr, hrs, hif⟩ := fen_mend (fun x hx => ⟨(hb.out x hx).1, by have := (hb.out x hx).2; omega⟩) hn8 hI hqn
                  have T0 : Calls Try.prog 12 #[.pointer (some ⟨mb, 0, none⟩), .int .i64 0] _ _ := stepF.calls base mb 0 col ts cv2 pv M _ hM (by rw [htl.out]; decide) hBW hfit
                  rw [hst] at T0
                  replace hfit := Aside0.mk hfit
                  replace hst := Aside0.mk hst
                  replace hif := Aside0.mk hif
                  replace hrs := Aside0.mk hrs
                  replace hthr := Aside0.mk hthr
                  clear hI
                  go_upto_region 29 with (first
                    | (go_at_call 12; refine T0.mono ?_; rintro e w6 ⟨rfl, hk6, col6, cv6, hc6, hM6⟩)
                    | go_in)
                  have e7 := heap_alloc_new w6 (Obj.cells (eArr 0 kind 0 hit) 40 (0, 0))
                  have hb7 : Below w6.heap.size w6 (w6.alloc (Obj.cells (eArr 0 kind 0 hit) 40 (0, 0))) := below_alloc (Below.refl _ _) _
                  have HB6 := HB.trans ((hk6.low hBW).mono hw3)
                  have HB7 := HB6.trans (hb7.mono HB6.size)
                  have hM7 := hM6.below hb7
                  clear hM6 hk6 HB HB6 hM T0 hb7 hc6
                  generalize w6.alloc (Obj.cells (eArr 0 kind 0 hit) 40 (0, 0)) = w7 at e7 hM7 HB7 ⊢
                  generalize w6.heap.size = B7 at e7 ⊢
                  have y1 : w7.cell? ⟨B7, 1, none⟩ = some (.int .i64 kind) := (blk_cell e7 1).trans rfl
                  obtain ⟨b0, hts⟩ : ∃ b0, ts = [b0] := match ts, htl.out with
                    | [b0], _ => ⟨b0, rfl⟩
                  subst hts
                  obtain ⟨v, wv, ov, hT⟩ := hM7.thr 0 b0 t' rfl (by rw [hthr.out]; rfl)
                  have TA : Calls Try.prog 19 #[.pointer (some ⟨mb, 0, none⟩), .int .i64 0] w7 _ := at.calls mb cv6 pv _ [b0] 0 w7 hM7.blk (prow_of hM7.ptrs) (by simp) v wv ov t'.at_ t'.rs t'.halted hrs.out hT.blk
                  clear hM7 hT
                  by_cases hqe : q = n
                  · have hif := hif.out
                    rw [if_pos hqe] at hif
                    obtain ⟨h6, hat⟩ := hif
                    rw [hat] at TA
                    subst h6
                    have hqb : ((q : Int) == (n : Int)) = true := beq_iff_eq.mpr (by omega)
                    replace hqe := Aside0.mk hqe
                    replace hat := Aside0.mk hat
                    clear hqn
                    go_wp2_with (first
                      | (go_at_call 19; refine TA.mono ?_; rintro e w8 ⟨rfl, h8⟩; obtain rfl := h8)
                      | go_in)
                    go_ret
                    exact ⟨rfl, HB7⟩
                  · have hif := hif.out
                    rw [if_neg hqe] at hif
                    obtain ⟨h6, hat⟩ := hif
                    rw [hat] at TA
                    subst h6
                    have hqb : ((q : Int) == (n : Int)) = false := beq_eq_false_iff_ne.mpr (by omega)
                    replace hqe := Aside0.mk hqe
                    replace hat := Aside0.mk hat
                    clear hqn
                    go_wp2_with (first
                      | (go_at_call 19; refine TA.mono ?_; rintro e w8 ⟨rfl, h8⟩; obtain rfl := h8)
                      | go_in)
                    go_ret
                    exact ⟨rfl, HB7⟩
end Go.Proofs.Ytaenjbhhpdmhgaa.Tso
