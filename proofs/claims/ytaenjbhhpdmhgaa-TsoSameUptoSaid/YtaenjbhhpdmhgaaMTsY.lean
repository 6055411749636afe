/-
A thread sees its own writes at once, others see them when they are flushed: the law TsoOwn, walked. Conditions: as each theorem states them.
-/
import Derived.Test.YtaenjbhhpdmhgaaMTsX
set_option linter.unusedVariables false
set_option linter.unusedSimpArgs false
namespace Go.Proofs.Ytaenjbhhpdmhgaa.Tso
open Go.RowKit Go.Proofs.YtaenjbhhpdmhgaaW.PrintWords Go.Proofs.YtaenjbhhpdmhgaaW.PrintLast Go.Proofs.YtaenjbhhpdmhgaaW.PrintMore
open Go.Proofs.Ytaenjbhhpdmhgaa.Kit
open Go.Proofs.Ytaenjbhhpdmhgaa.PTsoScript
def own4.T23 : Bool × List (List Nat × List Nat) := (true, [([], []), ([0], [0]), ([], []), ([], []), ([2, 3], [2, 3]), ([1, 4, 1], [1, 4]), ([5], [5]), ([6, 5], [6]), ([7], [7]), ([8, 7, 7], [7, 8]), ([9, 7], [7, 9]), ([10, 7], [7, 10]), ([11, 7], [7, 11]), ([7, 12], [7, 12]), ([13, 9], [13]), ([14], [14]), ([15, 14, 14], [14, 15]), ([14], [14]), ([16, 17, 14], [14, 16, 17]), ([14, 18], [14, 18])])
def own4.B23 : List Nat := [0, 1, 0, 0, 12, 31, 63, 127, 255, 511, 1023, 2047, 4095, 8191, 16383, 32767, 65535, 32767, 262143, 524287]
theorem own4.tab23 : rtab .any (opsOf Try.f4 23) = own4.T23 := by kernel_rfl
theorem own4.bits23 : waitsOk own4.T23.2 own4.B23 = true := by kernel_rfl
theorem info28y : (Try.prog.info? 28).map (fun i => (i.zero, i.size, i.bytes)) = some (some (.agg #[.int .i64 0, .int .i64 0, .int .i64 0, .int .i64 0, .int .i64 0, .int .i64 0, .int .u64 0, .int .i64 0]), 8, 64) := by kernel_rfl
theorem thr_out {W : World} {base mb : Nat} {col : Nat → Nat} {ts : List Nat} {cv pv : Value} {M : Mch} (hM : Mach W base mb col ts cv pv M) {b : Nat} (hk : ts[0]? = some b) {t : Thr} (ht : M.thr[0]? = some t) {xs : List Int} (ho : t.out = xs) (hx : xs.length ≤ 17592186044416) :
    Calls Try.prog 16 #[.pointer (some ⟨mb, 0, none⟩), .int .i64 0] W fun e w' => ∃ v, e = .returned v ∧ Kd.R kU 26 w' W.heap.size (fun _ => True) v xs ∧ Below W.heap.size W w' := by
  subst ho
  obtain ⟨v, wv, ov, hT⟩ := hM.thr 0 b t hk ht
  have hblk := hT.blk
  have hout := hT.out
  obtain ⟨A, c, rfl⟩ := Kd.R_slice hout
  exact output.calls mb cv pv M.steps ts 0 b W hM.blk (prow_of hM.ptrs) hk v wv A c t.out t.at_ t.rs t.halted hT.len hblk (Kd.R_reads' hout).2.2 hx
theorem thr_wait {W : World} {base mb : Nat} {col : Nat → Nat} {ts : List Nat} {cv pv : Value} {M : Mch} (hM : Mach W base mb col ts cv pv M) (hl : 0 < ts.length) {t : Thr} (ht : M.thr[0]? = some t) {n : Nat} (ho : t.wr.length = n) :
    Calls Try.prog 17 #[.pointer (some ⟨mb, 0, none⟩), .int .i64 0] W fun e w' => e = .returned (.int .i64 (n : Int)) ∧ w' = W := by
  subst ho
  obtain ⟨v, wv, ov, hT⟩ := hM.thr 0 ts[0] t (List.getElem?_eq_getElem hl) ht
  have hblk := hT.blk
  obtain ⟨A, c, rfl⟩ := Kd.R_slice hT.wr
  exact waiting.calls mb cv pv M.steps ts 0 W hM.blk (prow_of hM.ptrs) hl v ov A _ c t.at_ t.rs t.halted hT.len hblk
theorem thr_halted {W : World} {base mb : Nat} {col : Nat → Nat} {ts : List Nat} {cv pv : Value} {M : Mch} (hM : Mach W base mb col ts cv pv M) (hl : 0 < ts.length) {t : Thr} (ht : M.thr[0]? = some t) {h : Bool} (ho : t.halted = h) :
    Calls Try.prog 18 #[.pointer (some ⟨mb, 0, none⟩), .int .i64 0] W fun e w' => e = .returned (.bool h) ∧ w' = W := by
  subst ho
  obtain ⟨v, wv, ov, hT⟩ := hM.thr 0 ts[0] t (List.getElem?_eq_getElem hl) ht
  exact halted.calls mb cv pv M.steps ts 0 W hM.blk (prow_of hM.ptrs) hl v wv ov t.at_ t.rs t.halted hT.len hT.blk
theorem mach_cells {W : World} {base mb : Nat} {col : Nat → Nat} {ts : List Nat} {cv pv : Value} {M : Mch} (hM : Mach W base mb col ts cv pv M) {x : Int} (hc : M.cells = [x]) :
    Calls Try.prog 14 #[.pointer (some ⟨mb, 0, none⟩)] W fun e w' => ∃ g c, e = .returned (.slice (some ⟨g, 0, none⟩) 1 c) ∧ w'.cell? ⟨g, 0, none⟩ = some (.int .u64 x) ∧ g < w'.heap.size ∧ Below W.heap.size W w' := by
  obtain ⟨A, c, rfl⟩ := Kd.R_slice hM.cells
  have hl : M.cells.length = 1 := by rw [hc]; rfl
  refine (cells.calls mb A c M.cells pv M.steps W hM.blk (Kd.R_reads' hM.cells).2.2 (by omega)).mono ?_
  rintro e w' ⟨v, rfl, hR, hb⟩
  rw [hc] at hR
  obtain ⟨g, cg, rfl, _, hg, _⟩ := Kd.R_form hR (by simp)
  exact ⟨g, cg, rfl, (Kd.R_celln 0 hR 0 (by omega) (by simp)).1, Kd.R_lt hR g rfl, hb⟩
theorem field_kind (a b c : Value) (h : Value) (w : World) : (Instr.field 40 (.agg #[a, b, c, h]) 1).run Try.prog w = .ok b w := by kernel_rfl
theorem same_calls {xs : List Int} {n : Nat} (hn : xs.length = n) (hm : n ≤ 9223372036854775807) (A0 : Option Addr) (c0 : Nat) (A1 : Option Addr) (c1 : Nat) (w : World) (h0 : Kd.C kU w A0 n xs) (h1 : Kd.C kU w A1 n xs) (hc0 : n ≤ c0) (hc1 : n ≤ c1) :
    Calls Try.prog 15 #[.slice A0 n c0, .slice A1 n c1] w fun e w' => e = .returned (.bool true) ∧ Drawn0 w w' := by
  subst hn
  obtain ⟨k, hk⟩ := same_ev xs hm
  exact tautochronelaw11_Same.calls k A0 c0 xs A1 c1 xs true w h0 hc0 h1 hc1 hk
set_option maxHeartbeats 16000000 in
set_option maxRecDepth 100000 in
theorem tsoOwn.calls (V : Option Addr) (cv : Nat) (l : List Int) (f : Int) (w : World) (hC : Kd.C kU w V l.length l) (hcv : l.length ≤ cv) (hlm : l.length ≤ maxLen) (hb : ∀ x ∈ l, 0 ≤ x ∧ x ≤ 18446744073709551615) (hf : 0 ≤ f ∧ f ≤ 255) :
    Calls Try.prog 4 #[.slice V l.length cv, .int .u8 f] w fun e w' => e = .returned (.bool true) ∧ Below w.heap.size w w' := by
  have TA := awake.calls w
  unfold maxLen at hlm
  have hCA := hC
  replace hC := Aside0.mk hC
  replace hb := Aside0.mk hb
  replace hCA := Aside0.mk hCA
  go_enter Try.func4, Try.ntmps4
  go_upto_region 4 with (first
    | (go_at_call 9; refine TA.mono ?_; rintro e w0 ⟨rfl, hb0⟩)
    | go_in)
  obtain ⟨n, hn, hn8, hnl⟩ : ∃ n : Nat, (if (10 : Int) < (l.length : Int) then (10 : Int) else (l.length : Int)) = n ∧ n ≤ 10 ∧ n ≤ l.length := ⟨min l.length 10, by split <;> omega, by omega, by omega⟩
  rw [hn]
  clear hn TA
  go_wp2
  go_loopw [6, 25] (fun v6 v24 wr' => ∃ (j : Nat), v24 = .int .i64 j ∧ j ≤ n ∧ Kd.R k28 28 wr' w.heap.size (fun _ => True) v6 (rawO l j) ∧ Below w.heap.size w wr')
    (fun _ v24 _ => n - (intOf v24).toNat)
  case atStart => exact ⟨0, rfl, by omega, Kd.R_nil _ _ _ _ _, hb0⟩
  case round =>
    clear hb0
    obtain ⟨j, rfl, hjn, hR, HB⟩ := hrel
    by_cases hj : j < n
    · obtain ⟨_, _, hrd⟩ := Kd.reads_of_C (enc := Value.int .u64) (d := (0 : Int)) (h1 := fun _ => rfl) hC.out
      obtain ⟨ad, rfl, hc⟩ := hrd (by omega)
      have xz := hc j (by omega)
      have xr := (HB.cell (World.block_lt_of_cell? w _ xz)).trans xz
      obtain ⟨p, hp⟩ : ∃ p, p = l.getD j 0 := ⟨_, rfl⟩
      rw [← hp] at xr
      have hsucc : rawO l (j + 1) = rawO l j ++ roundO p := by rw [hp]; rfl
      have hlen := rawO_len l j
      replace hp := Aside0.mk hp
      replace hsucc := Aside0.mk hsucc
      clear hc hrd xz
      generalize rawO l j = XS at hR hsucc hlen
      replace hlen := Aside0.mk hlen
      go_upto_region 9 with (first
        | ((with_reducible refine gate_dst (N := 35) rfl ?_); go_loud (refine Kd.R_lit k28 (w0 := w) w.heap.size 28 rfl (N := 35) rfl (xs := roundO p) (inner := (roundO p).flatMap cells28) (ok := fun _ => True) (okp := fun _ => True) (by go_simp; first | rfl | exact ⟨rfl, rfl⟩) (reps28 _ _ _ _) (fun _ h => h) trivial HB HB.size (by show 4 ≤ _; omega) ?_; intro v1 w1 hR1 hb1 hg1 hn1; obtain ⟨g1, cg1, rfl, hgb1, hgl1, hcg1, cells1, hgh1⟩ := R_form2 hR1 hn1; rw [show (roundO p).length = 4 from rfl] at hR1 ⊢; have hRo := Kd.R_grown hR hg1 (fun _ _ h => by cases h); have HC1 := (Kd.R_reads' hR1).2.2; clear hgb1 hgl1 hcg1 cells1 hgh1))
        | (at_builtin; go_loud (refine Kd.R_append_rows k28 (w0 := w) w.heap.size rfl (.tmp 29) (.tmp 35) 29 28 (.agg #[.int .i64 0, .int .i64 0, .int .i64 0, .int .i64 0, .int .i64 0, .int .i64 0, .int .u64 0, .int .i64 0]) 64 rfl Try.underlying29 info28y rfl (by decide) (by omega) _ XS (roundO p) (some ⟨g1, 0, none⟩) 4 cg1 (fun _ => True) (fun _ => False) rfl rfl hRo HC1 (fun _ _ h => h) (fun _ h => h.elim) (fun _ _ => trivial) hb1 hb1.size (by rw [hlen.out]; omega) ?_; intro v4 w4 hR4 HB4 hg4 hat4; rw [← hsucc.out] at hR4))
        | go_in)
      clear hat4 hg4 hRo HC1 hR1 hb1 hg1 hn1 hR HB xr
      go_wp2
      go_roundw
      case rel => exact ⟨j + 1, by first | rfl | go_num, by omega, hR4, HB4⟩
      case measure => simp [intOf]; omega
    · obtain rfl : n = j := by omega
      have hlen := rawO_len l n
      obtain ⟨X, hX⟩ : ∃ X, X = rawO l n ++ [halt0] := ⟨_, rfl⟩
      have hXl2 : X.length = 4 * n + 1 := by rw [hX, List.length_append, hlen]; rfl
      obtain ⟨m, hm⟩ : ∃ m, m = 4 * n + 1 := ⟨_, rfl⟩
      have hm18 : m ≤ 41 := by omega
      have hm1 : 0 < m := by omega
      have hm2 : m ≤ 9223372036854775807 := by omega
      rw [← hm] at hXl2
      have hXl := Aside0.mk hXl2
      have hm0 := Aside0.mk hm
      have hX0 := Aside0.mk hX
      generalize rawO l n = XS at hR hlen hX
      replace hlen := Aside0.mk hlen
      replace hX := Aside0.mk hX
      clear hXl2 hm
      go_upto_region 11 with (first
        | ((with_reducible refine gate_dst (N := 40) rfl ?_); go_loud (refine Kd.R_lit k28 (w0 := w) w.heap.size 28 rfl (N := 40) rfl (xs := [halt0]) (inner := [halt0].flatMap cells28) (ok := fun _ => True) (okp := fun _ => True) (by go_simp; first | rfl | exact ⟨rfl, rfl⟩) (reps28 _ _ _ _) (fun _ h => h) trivial HB HB.size (by show 1 ≤ _; omega) ?_; intro v1 w1 hR1 hb1 hg1 hn1; obtain ⟨g1, cg1, rfl, hgb1, hgl1, hcg1, cells1, hgh1⟩ := R_form2 hR1 hn1; rw [show [halt0].length = 1 from rfl] at hR1 ⊢; have hRo := Kd.R_grown hR hg1 (fun _ _ h => by cases h); have HC1 := (Kd.R_reads' hR1).2.2; clear hgb1 hgl1 hcg1 cells1 hgh1))
        | (at_builtin; go_loud (refine Kd.R_append_rows k28 (w0 := w) w.heap.size rfl (.tmp 38) (.tmp 40) 29 28 (.agg #[.int .i64 0, .int .i64 0, .int .i64 0, .int .i64 0, .int .i64 0, .int .i64 0, .int .u64 0, .int .i64 0]) 64 rfl Try.underlying29 info28y rfl (by decide) (by omega) _ XS [halt0] (some ⟨g1, 0, none⟩) 1 cg1 (fun _ => True) (fun _ => False) rfl rfl hRo HC1 (fun _ _ h => h) (fun _ h => h.elim) (fun _ _ => trivial) hb1 hb1.size (by rw [hlen.out]; omega) ?_; intro v4 w4 hR4 HB4 hg4 hat4; rw [← hX.out] at hR4; obtain ⟨g, cg, rfl, hgb, hgl, _⟩ := Kd.R_form hR4 (by rw [hXl.out]; exact hm1); rw [hXl.out] at hR4 ⊢))
        | go_in)
      clear hat4 hg4 hRo HC1 hR1 hb1 hg1 hn1 hR HB hlen hX
      have hR1 := hR4
      have hb1 := HB4
      clear hR4 HB4 hgl
      go_wp2
      go_loopw [44] (fun vi wr' => ∃ j : Nat, vi = .int .i64 j ∧ j ≤ m ∧ Kd.R k28 28 wr' w.heap.size (fun _ => True) (.slice (some ⟨g, 0, none⟩) m cg) (mixS X j) ∧ Below w.heap.size w wr')
        (fun vi _ => m - (intOf vi).toNat)
      case atStart => exact ⟨0, rfl, by omega, by rw [mixS_zero]; exact hR1, hb1⟩
      case round =>
        clear hR1 hb1
        obtain ⟨j, rfl, hjL, hR, HB⟩ := hrel
        by_cases hj5 : j < m
        · have hj : j < X.length := by rw [hXl.out]; exact hj5
          obtain ⟨hl1, hcg, hC⟩ := Kd.R_reads' hR
          obtain ⟨ad, ead, x0, x1, x2, x3, x4, x5, x6, x7⟩ := at_T28 hC (j : Int) (by omega) (by rw [mixS_len]; omega)
          obtain rfl := Option.some.inj ead
          have hadd := add_zero g
          rw [mixS_at X j hj, Int.toNat_natCast, hadd] at x0 x1 x2 x3 x4 x5 x6 x7
          dsimp only at x1 x2 x3 x4 x5 x6 x7
          have hset := mixS_set X j hj
          generalize X[j] = x at x0 x1 x2 x3 x4 x5 x6 x7 hset
          replace hset := Aside0.mk hset
          replace hl1 := Aside0.mk hl1
          replace hj := Aside0.mk hj
          have y0 := x0; have y1 := x1; have y2 := x2; have y3 := x3; have y4 := x4; have y5 := x5; have y6 := x6; have y7 := x7
          clear ead hadd hC
          go_upto_region 14 with go_in
          have e7 := heap_alloc_new wr (Obj.cells #[.int .i64 x.f0, .int .i64 x.f1, .int .i64 x.f2, .int .i64 x.f3, .int .i64 x.f4, .int .i64 x.f5, .int .u64 x.f6, .int .i64 x.f7] 28 (0, 0))
          have hb7 : Below wr.heap.size wr (wr.alloc (Obj.cells #[.int .i64 x.f0, .int .i64 x.f1, .int .i64 x.f2, .int .i64 x.f3, .int .i64 x.f4, .int .i64 x.f5, .int .u64 x.f6, .int .i64 x.f7] 28 (0, 0))) := below_alloc (Below.refl _ _) _
          generalize wr.alloc (Obj.cells #[.int .i64 x.f0, .int .i64 x.f1, .int .i64 x.f2, .int .i64 x.f3, .int .i64 x.f4, .int .i64 x.f5, .int .u64 x.f6, .int .i64 x.f7] 28 (0, 0)) = w7 at e7 hb7 ⊢
          have hR := Kd.R_below hR hb7
          have HB := HB.trans (hb7.mono HB.size)
          generalize wr.heap.size = B7 at e7 ⊢
          clear x0 x1 x2 x3 x4 x5 x6 x7 y0 y1 y2 y3 y4 y5 y6 y7 hb7
          have y0 : w7.cell? ⟨B7, 0, none⟩ = some (.int .i64 x.f0) := (blk_cell e7 0).trans rfl
          have y1 : w7.cell? ⟨B7, 1, none⟩ = some (.int .i64 x.f1) := (blk_cell e7 1).trans rfl
          have y2 : w7.cell? ⟨B7, 2, none⟩ = some (.int .i64 x.f2) := (blk_cell e7 2).trans rfl
          have y3 : w7.cell? ⟨B7, 3, none⟩ = some (.int .i64 x.f3) := (blk_cell e7 3).trans rfl
          have y4 : w7.cell? ⟨B7, 4, none⟩ = some (.int .i64 x.f4) := (blk_cell e7 4).trans rfl
          have y5 : w7.cell? ⟨B7, 5, none⟩ = some (.int .i64 x.f5) := (blk_cell e7 5).trans rfl
          have y6 : w7.cell? ⟨B7, 6, none⟩ = some (.int .u64 x.f6) := (blk_cell e7 6).trans rfl
          have y7 : w7.cell? ⟨B7, 7, none⟩ = some (.int .i64 x.f7) := (blk_cell e7 7).trans rfl
          have TB := bareX_calls x w7
          have hjm : j < (mixS X j).length := by rw [mixS_len]; exact hj.out
          go_upto_region 15 with (first
            | (go_at_call 10; refine TB.mono ?_; rintro e w8 ⟨rfl, hb8⟩; have hR := Kd.R_below hR hb8; have HB := HB.trans (hb8.mono HB.size); obtain ⟨cs, hcl, hcc, hMM⟩ := row28_at hR j hjm (bareX x); obtain ⟨x0, x1, x2, x3, x4, x5, x6, x7⟩ := row28_cells hR j hjm; obtain ⟨cur, hcur⟩ := Kd.R_typed hR g rfl; have f0 := blk_frozen hcur (j * 8); have f1 := blk_frozen hcur (j * 8 + 1); have f2 := blk_frozen hcur (j * 8 + 2); have f3 := blk_frozen hcur (j * 8 + 3); have f4 := blk_frozen hcur (j * 8 + 4); have f5 := blk_frozen hcur (j * 8 + 5); have f6 := blk_frozen hcur (j * 8 + 6); have f7 := blk_frozen hcur (j * 8 + 7))
            | go_in)
          obtain ⟨hrow, hgr⟩ := Kd.R_seg hR (j : Int) (by omega) (by omega) hcl hcc (Nat.le_refl 8) hMM (fun _ h => h.elim)
          have HB9 := HB.grown hgr HB.size (fun k hk => by have := Option.some.inj hk; omega)
          rw [Int.toNat_natCast, hset.out] at hrow
          rw [Int.toNat_natCast] at HB9
          rw [show (World.setCell (World.setCell (World.setCell (World.setCell (World.setCell (World.setCell (World.setCell (World.setCell w8 ⟨g, j * 8, none⟩ (.int .i64 (bareX x).f0)) ⟨g, j * 8 + 1, none⟩ (.int .i64 (bareX x).f1)) ⟨g, j * 8 + 2, none⟩ (.int .i64 (bareX x).f2)) ⟨g, j * 8 + 3, none⟩ (.int .i64 (bareX x).f3)) ⟨g, j * 8 + 4, none⟩ (.int .i64 (bareX x).f4)) ⟨g, j * 8 + 5, none⟩ (.int .i64 (bareX x).f5)) ⟨g, j * 8 + 6, none⟩ (.int .u64 (bareX x).f6)) ⟨g, j * 8 + 7, none⟩ (.int .i64 (bareX x).f7)) = w8.setCells g (j * 8 + 0) (cells28 (bareX x)) from rfl]
          have hrow' : Kd.R k28 28 (w8.setCells g (j * 8 + 0) (cells28 (bareX x))) w.heap.size (fun _ => True) (.slice (some ⟨g, 0, none⟩) m cg) (mixS X (j + 1)) := hrow
          have HB9' : Below w.heap.size w (w8.setCells g (j * 8 + 0) (cells28 (bareX x))) := HB9
          generalize w8.setCells g (j * 8 + 0) (cells28 (bareX x)) = w9 at hrow' HB9' ⊢
          clear hrow HB9 hgr hMM hcc hcl x0 x1 x2 x3 x4 x5 x6 x7 f0 f1 f2 f3 f4 f5 f6 f7 hcur y0 y1 y2 y3 y4 y5 y6 y7 e7 TB hR HB hb8
          go_wp2
          go_roundw
          case rel => exact ⟨j + 1, by first | rfl | go_num, by omega, hrow', HB9'⟩
          case measure => simp [intOf]; omega
        · have hjj : j = X.length := by rw [hXl.out]; omega
          have hR' : Kd.R k28 28 wr w.heap.size (fun _ => True) (.slice (some ⟨g, 0, none⟩) m cg) (X.map bareX) := by rw [← mixS_all, ← hjj]; exact hR
          replace hjj := Aside0.mk hjj
          clear hR
          have hX2 : X.map bareX = ownX l n := by rw [hX0.out]; rfl
          have hRX : Kd.R k28 28 wr w.heap.size (fun _ => True) (.slice (some ⟨g, 0, none⟩) m cg) (ownX l n) := by rw [hX2] at hR'; exact hR'
          have hfl : (ownX l n).length = m := by rw [ownX_len, hm0.out]
          have hfin : (ownX l n).length ≤ 9223372036854775807 := by rw [hfl]; exact hm2
          have him := ownX_im l n hn8
          have hIN := own_init l n
          have TOF := fun (V : Option Addr) (c : Nat) (A : Option Addr) (cA : Nat) (wx : World) (h : Kd.C (Kd.slice 28 k28) wx V 1 [ownX l n]) (hX : Kd.C kU wx A 1 [77]) (hc : 1 ≤ c) => of.calls 1 1 [ownX l n] V c A cA [77] wx h hc (fun t ht => by rw [List.mem_singleton.mp ht]; exact hfin) him hX
          clear hR' hX2
          replace hfl := Aside0.mk hfl
          replace him := Aside0.mk him
          replace hIN := Aside0.mk hIN
          generalize hFX : ownX l n = FX at hRX TOF
          replace hFX := Aside0.mk hFX
          go_upto_region 17 with (first
            | ((with_reducible refine gate_dst (N := 57) rfl ?_); go_loud (refine Kd.R_lit (Kd.slice 28 k28) (w0 := w) w.heap.size 29 rfl (N := 57) rfl (xs := [FX]) (inner := [.slice (some ⟨g, 0, none⟩) m cg]) (ok := fun _ => True) (okp := fun _ => True) (by go_simp; first | done | rfl) (Reps.one ⟨_, rfl, hRX⟩ (Reps.none _ _)) (fun _ h => h) trivial HB HB.size (by show 1 ≤ _; omega) ?_; intro v3 w3 hR3 hb3 hg3 hn3; obtain ⟨g3, cg3, rfl, hgb3, hgl3, hcg3, cells3, hgh3⟩ := R_form2 hR3 hn3; rw [show [FX].length = 1 from rfl] at hR3 hcg3 ⊢))
            | ((with_reducible refine gate_dst (N := 59) rfl ?_); go_loud (refine Kd.R_lit kU (w0 := w) w.heap.size 26 rfl (N := 59) rfl (xs := [77]) (inner := [.int .u64 77]) (ok := fun _ => True) (okp := fun _ => True) (by go_simp; first | done | rfl) (Reps.one rfl (Reps.none _ _)) (fun _ h => h) trivial hb3 hb3.size (by show 1 ≤ _; omega) ?_; intro v7 w7 hR7 hb7 hg7 hn7; obtain ⟨g7, cg7, rfl, hgb7, hgl7, hcg7, cells7, hgh7⟩ := R_form2 hR7 hn7; rw [show [(77 : Int)].length = 1 from rfl] at hR7 hcg7 ⊢; have hR3 := Kd.R_grown hR3 hg7 (fun _ _ h => by cases h); have TO := TOF (some ⟨g3, 0, none⟩) cg3 (some ⟨g7, 0, none⟩) cg7 w7 (Kd.R_reads' hR3).2.2 (Kd.R_reads' hR7).2.2 hcg3))
            | (go_at_call 11; go_loud (refine TO.mono ?_; rintro e w4 ⟨mb, ts, cv4, pv, rfl, hM, hb4⟩))
            | go_in)
          have HB4 := hb7.trans (hb4.mono hb7.size)
          have hBW : w7.heap.size ≤ w4.heap.size := hb4.size
          have hw3 : w.heap.size ≤ w7.heap.size := hb7.size
          clear TO TOF hb4 hb3 hg3 hn3 hgh3 hcg3 hgl3 hgb3 cells3 hR3 hRX HB hb7 hg7 hn7 hgh7 hcg7 hgl7 hgb7 cells7 hR7
          generalize w7.heap.size = base at hM hBW hw3
          have htl : Aside0 (ts.length = 1) := Aside0.mk hM.len
          have hI := hIN.out
          rw [hFX.out] at hI
          replace hM : Mach w4 base mb (fun _ => 0) ts cv4 pv ⟨firstS 1 1 [77], [initThr FX], 0⟩ := hM
          generalize (⟨firstS 1 1 [77], [initThr FX], 0⟩ : Mch) = M0 at hM hI
          obtain ⟨n2, hn2⟩ : ∃ n2, n2 = 4 * n := ⟨_, rfl⟩
          have hn2c : 4 * (n : Int) = (n2 : Int) := by omega
          have hn2b : n2 ≤ 40 := by omega
          replace hn2 := Aside0.mk hn2
          go_upto_region 20 with go_in
          go_loopw [67] (fun v67 wr' => ∃ (j : Nat) (M : Mch) (col : Nat → Nat) (cv2 : Value), v67 = .int .i64 j ∧ j ≤ n2 ∧ Mach wr' base mb col ts cv2 pv M ∧ OwnM l n M j ∧ base ≤ wr'.heap.size ∧ Below w.heap.size w wr')
            (fun v67 _ => n2 - (intOf v67).toNat)
          case atStart => exact ⟨0, M0, _, _, rfl, by omega, hM, hI, hBW, HB4⟩
          case round =>
            clear hM hI hBW HB4
            obtain ⟨j, M, col, cv2, rfl, hjl, hM, hI, hBW, HB⟩ := hrel
            by_cases hj : j < n2
            · obtain ⟨hfit, hI'⟩ := own_step (fun x hx => ⟨(hb.out x hx).1, by have := (hb.out x hx).2; omega⟩) hn8 hnl hI (by rw [← hn2.out]; exact hj)
              have T0 : Calls Try.prog 12 #[.pointer (some ⟨mb, 0, none⟩), .int .i64 0] wr _ := stepF.calls base mb 0 col ts cv2 pv M wr hM (by rw [htl.out]; decide) hBW hfit
              replace hI' := Aside0.mk hI'
              replace hfit := Aside0.mk hfit
              clear hI
              go_wp2_with (first
                | (go_at_call 12; refine T0.mono ?_; rintro e w6 ⟨rfl, hk6, col6, cv6, hc6, hM6⟩)
                | go_in)
              go_roundw
              case rel => exact ⟨j + 1, _, _, _, by first | rfl | go_num, by omega, hM6, hI'.out, Nat.le_trans hBW hk6.size, HB.trans ((hk6.low hBW).mono hw3)⟩
              case measure => simp [intOf]; omega
            · obtain rfl : n2 = j := by omega
              have hIW : OwnW l n M 0 := own_all (by rw [← hn2.out]; exact hI)
              clear hI
              obtain ⟨b0, hts⟩ : ∃ b0, ts = [b0] := match ts, htl.out with
                | [b0], _ => ⟨b0, rfl⟩
              subst hts
              obtain ⟨hc77, r0, r1, hr0, hr1, hthr0⟩ := hIW
              obtain ⟨t, ht⟩ : ∃ t : Thr, t = ⟨ownX l n, (4 * n : Nat), r0 :: r1 :: List.replicate 6 0, (wrO l n).drop 0, l.take n, false⟩ := ⟨_, rfl⟩
              have hthr : Aside0 (M.thr[0]? = some t) := Aside0.mk (by rw [hthr0, ht]; rfl)
              have hout : Aside0 (t.out = l.take n) := Aside0.mk (by rw [ht])
              have hwl : Aside0 (t.wr.length = n) := Aside0.mk (by rw [ht]; exact wrO_len l n)
              have hln : Aside0 ((l.take n).length = n) := Aside0.mk (by rw [List.length_take]; omega)
              have hlx : (l.take n).length ≤ 17592186044416 := by rw [hln.out]; omega
              have hCn : Aside0 (Kd.C kU w V n (l.take n)) := Aside0.mk (by have := Kd.C_take hCA.out hnl; rw [hln.out] at this; exact this)
              have hIW : Aside0 (OwnW l n M 0) := Aside0.mk ⟨hc77, r0, r1, hr0, hr1, hthr0⟩
              have hncv : n ≤ cv := by omega
              replace hc77 := Aside0.mk hc77
              replace hlx := Aside0.mk hlx
              clear hthr0 ht hr0 hr1
              go_upto_region 23 with go_in
              refine start_ (n := 20) (S := fun w' => Below wr.heap.size wr w') (ds := []) #[false, false, false, false, false, false, false, false, false, false, false, false, false, false, false, false, false, false, false, false] (by kernel_rfl) rfl rfl (below_drew (Below.refl _ _)) (fun hHeld => ?_); refine with_tabW own4.tab23 own4.bits23 (fun HT_ HW_ => ?_)
              refine pure_ (i := 0) (N := some 72) (v := ?_) (a' := ?_) #[true, false, false, false, false, false, false, false, false, false, false, false, false, false, false, false, false, false, false, false] rfl rfl (any_of HT_.out (by kernel_rfl)) (fun _ _ _ h => h) (Or.inl ⟨by first | rfl | kernel_rfl, ?_⟩) ?_ ?_
              rotate_left
              · intro w'
                go_simp
                with_reducible rfl
              rotate_left
              · simp only [Act.put, List.setIfInBounds_toArray, List.set_cons_zero, List.set_cons_succ, i64_w, i32_w]
                rfl
              refine pure_ (i := 2) (N := some 74) (v := ?_) (a' := ?_) #[true, false, true, false, false, false, false, false, false, false, false, false, false, false, false, false, false, false, false, false] rfl rfl (any_of HT_.out (by kernel_rfl)) (fun _ _ _ h => h) (Or.inl ⟨by first | rfl | kernel_rfl, ?_⟩) ?_ ?_
              rotate_left
              · intro w'
                go_simp
                with_reducible rfl
              rotate_left
              · simp only [Act.put, List.setIfInBounds_toArray, List.set_cons_zero, List.set_cons_succ, i64_w, i32_w]
                rfl
              refine pure_ (i := 3) (N := some 75) (v := ?_) (a' := ?_) #[true, false, true, true, false, false, false, false, false, false, false, false, false, false, false, false, false, false, false, false] rfl rfl (any_of HT_.out (by kernel_rfl)) (fun _ _ _ h => h) (Or.inl ⟨by first | rfl | kernel_rfl, ?_⟩) ?_ ?_
              rotate_left
              · intro w'
                go_simp
                with_reducible rfl
              rotate_left
              · simp only [Act.put, List.setIfInBounds_toArray, List.set_cons_zero, List.set_cons_succ, i64_w, i32_w]
                rfl
              refine pure_ (i := 4) (N := some 76) (v := ?_) (a' := ?_) #[true, false, true, true, true, false, false, false, false, false, false, false, false, false, false, false, false, false, false, false] rfl rfl (any_of HT_.out (by kernel_rfl)) (fun _ _ _ h => h) (Or.inl ⟨by first | rfl | kernel_rfl, ?_⟩) ?_ ?_
              rotate_left
              · intro w'
                go_simp
                with_reducible rfl
              rotate_left
              · simp only [Act.put, List.setIfInBounds_toArray, List.set_cons_zero, List.set_cons_succ, i64_w, i32_w]
                rfl
              refine one_ (i := 1) (N := some 73) #[true, true, true, true, true, false, false, false, false, false, false, false, false, false, false, false, false, false, false, false] rfl rfl (one_of HT_.out (by kernel_rfl)) (by decide) (fun K hK => ?_)
              refine goes_ Try.func16 (by kernel_rfl) rfl #[.pointer (some ⟨mb, 0, none⟩), .int .i64 0] (by first | rfl | kernel_rfl) rfl rfl (by (try simp only [List.map_toArray, List.map_cons, List.map_nil]); first | done | rfl) ?_
              refine (thr_out (hM.below hHeld) rfl hthr.out hout.out hlx.out).mono ?_
              rintro e w8 ⟨v8, rfl, hR8, hb8⟩
              obtain ⟨A8, c8, rfl⟩ := Kd.R_slice hR8
              have hC8 := (Kd.R_reads' hR8).2
              rw [hln.out] at hC8 ⊢
              have hHeld := hHeld.trans (hb8.mono hHeld.size)
              refine ⟨_, rfl, hK.out _ _ hHeld (fun hHeld => ?_)⟩
              clear hK K
              refine norm_ (a' := ?_) ?_ ?_
              rotate_left
              · show Act.put _ (some 73) _ = _
                simp only [Act.put, List.setIfInBounds_toArray, List.set_cons_zero, List.set_cons_succ, i64_w, i32_w]
                rfl
              refine one_ (i := 5) (N := some 77) #[true, true, true, true, true, true, false, false, false, false, false, false, false, false, false, false, false, false, false, false] rfl rfl (one_of HT_.out (by kernel_rfl)) (by decide) (fun K hK => ?_)
              refine goes_ Try.func15 (by kernel_rfl) rfl #[.slice A8 n c8, .slice V n cv] (by first | rfl | kernel_rfl) rfl rfl (by (try simp only [List.map_toArray, List.map_cons, List.map_nil]); first | done | rfl) ?_
              refine (same_calls hln.out (by omega) A8 c8 V cv _ hC8.2 (Kd.C_below hCn.out (HB.trans (hHeld.mono HB.size))) hC8.1 (by omega)).mono ?_
              rintro e w9 ⟨rfl, hd9⟩
              have hHeld := hHeld.trans (hd9.below.mono hHeld.size)
              refine ⟨_, rfl, hK.out _ _ hHeld (fun hHeld => ?_)⟩
              clear hK K
              refine norm_ (a' := ?_) ?_ ?_
              rotate_left
              · show Act.put _ (some 77) _ = _
                simp only [Act.put, List.setIfInBounds_toArray, List.set_cons_zero, List.set_cons_succ, i64_w, i32_w]
                rfl
              refine pure_ (i := 6) (N := some 78) (v := ?_) (a' := ?_) #[true, true, true, true, true, true, true, false, false, false, false, false, false, false, false, false, false, false, false, false] rfl rfl (any_of HT_.out (by kernel_rfl)) (fun _ _ _ h => h) (Or.inl ⟨by first | rfl | kernel_rfl, ?_⟩) ?_ ?_
              rotate_left
              · intro w'
                go_simp
                with_reducible rfl
              rotate_left
              · simp only [Act.put, List.setIfInBounds_toArray, List.set_cons_zero, List.set_cons_succ, i64_w, i32_w]
                rfl
              refine pure_ (i := 7) (N := some 79) (v := ?_) (a' := ?_) #[true, true, true, true, true, true, true, true, false, false, false, false, false, false, false, false, false, false, false, false] rfl rfl (any_of HT_.out (by kernel_rfl)) (fun _ _ _ h => h) (Or.inl ⟨by first | rfl | kernel_rfl, ?_⟩) ?_ ?_
              rotate_left
              · intro w'
                go_simp
                with_reducible rfl
              rotate_left
              · simp only [Act.put, List.setIfInBounds_toArray, List.set_cons_zero, List.set_cons_succ, i64_w, i32_w]
                rfl
              refine pure_ (i := 8) (N := some 80) (v := ?_) (a' := ?_) #[true, true, true, true, true, true, true, true, true, false, false, false, false, false, false, false, false, false, false, false] rfl rfl (any_of HT_.out (by kernel_rfl)) (fun _ _ _ h => h) (Or.inl ⟨by first | rfl | kernel_rfl, ?_⟩) ?_ ?_
              rotate_left
              · intro w'
                go_simp
                with_reducible rfl
              rotate_left
              · simp only [Act.put, List.setIfInBounds_toArray, List.set_cons_zero, List.set_cons_succ, i64_w, i32_w]
                rfl
              refine one_ (i := 9) (N := some 81) #[true, true, true, true, true, true, true, true, true, true, false, false, false, false, false, false, false, false, false, false] rfl rfl (one_of HT_.out (by kernel_rfl)) (by decide) (fun K hK => ?_)
              refine goes_ Try.func14 (by kernel_rfl) rfl #[.pointer (some ⟨mb, 0, none⟩)] (by first | rfl | kernel_rfl) rfl rfl (by (try simp only [List.map_toArray, List.map_cons, List.map_nil]); first | done | rfl) ?_
              refine (mach_cells (hM.below hHeld) hc77.out).mono ?_
              rintro e w10 ⟨g10, c10, rfl, x10, l10, hb10⟩
              have hHeld := hHeld.trans (hb10.mono hHeld.size)
              refine ⟨_, rfl, hK.out _ _ hHeld (fun hHeld => ?_)⟩
              clear hK K
              refine norm_ (a' := ?_) ?_ ?_
              rotate_left
              · show Act.put _ (some 81) _ = _
                simp only [Act.put, List.setIfInBounds_toArray, List.set_cons_zero, List.set_cons_succ, i64_w, i32_w]
                rfl
              refine pure_ (i := 10) (N := some 82) (v := ?_) (a' := ?_) #[true, true, true, true, true, true, true, true, true, true, true, false, false, false, false, false, false, false, false, false] rfl rfl (any_of HT_.out (by kernel_rfl)) (fun _ _ _ h => h) (Or.inl ⟨by first | rfl | kernel_rfl, ?_⟩) ?_ ?_
              rotate_left
              · intro w'
                go_simp
                with_reducible rfl
              rotate_left
              · simp only [Act.put, List.setIfInBounds_toArray, List.set_cons_zero, List.set_cons_succ, i64_w, i32_w]
                rfl
              refine one_ (i := 11) (N := some 83) #[true, true, true, true, true, true, true, true, true, true, true, true, false, false, false, false, false, false, false, false] rfl rfl (one_of HT_.out (by kernel_rfl)) (by decide) (fun K hK => ?_)
              refine val_ (w1 := w10) (v := .int .u64 77) (by first | rfl | kernel_rfl) rfl ?_ ?_
              · go_simp
              refine hK.out _ _ hHeld (fun hHeld => ?_)
              clear hK K
              refine norm_ (a' := ?_) ?_ ?_
              rotate_left
              · show Act.put _ (some 83) _ = _
                simp only [Act.put, List.setIfInBounds_toArray, List.set_cons_zero, List.set_cons_succ, i64_w, i32_w]
                rfl
              refine pure_ (i := 12) (N := some 84) (v := ?_) (a' := ?_) #[true, true, true, true, true, true, true, true, true, true, true, true, true, false, false, false, false, false, false, false] rfl rfl (any_of HT_.out (by kernel_rfl)) (fun _ _ _ h => h) (Or.inl ⟨by first | rfl | kernel_rfl, ?_⟩) ?_ ?_
              rotate_left
              · intro w'
                go_simp
                with_reducible rfl
              rotate_left
              · simp only [Act.put, List.setIfInBounds_toArray, List.set_cons_zero, List.set_cons_succ, i64_w, i32_w]
                rfl
              refine pure_ (i := 13) (N := some 85) (v := ?_) (a' := ?_) #[true, true, true, true, true, true, true, true, true, true, true, true, true, true, false, false, false, false, false, false] rfl rfl (any_of HT_.out (by kernel_rfl)) (fun _ _ _ h => h) (Or.inl ⟨by first | rfl | kernel_rfl, ?_⟩) ?_ ?_
              rotate_left
              · intro w'
                go_simp
                with_reducible rfl
              rotate_left
              · simp only [Act.put, List.setIfInBounds_toArray, List.set_cons_zero, List.set_cons_succ, i64_w, i32_w]
                rfl
              refine pure_ (i := 14) (N := some 86) (v := ?_) (a' := ?_) #[true, true, true, true, true, true, true, true, true, true, true, true, true, true, true, false, false, false, false, false] rfl rfl (any_of HT_.out (by kernel_rfl)) (fun _ _ _ h => h) (Or.inl ⟨by first | rfl | kernel_rfl, ?_⟩) ?_ ?_
              rotate_left
              · intro w'
                go_simp
                with_reducible rfl
              rotate_left
              · simp only [Act.put, List.setIfInBounds_toArray, List.set_cons_zero, List.set_cons_succ, i64_w, i32_w]
                rfl
              refine pure_ (i := 15) (N := some 87) (v := ?_) (a' := ?_) #[true, true, true, true, true, true, true, true, true, true, true, true, true, true, true, true, false, false, false, false] rfl rfl (any_of HT_.out (by kernel_rfl)) (fun _ _ _ h => h) (Or.inl ⟨by first | rfl | kernel_rfl, ?_⟩) ?_ ?_
              rotate_left
              · intro w'
                go_simp
                with_reducible rfl
              rotate_left
              · simp only [Act.put, List.setIfInBounds_toArray, List.set_cons_zero, List.set_cons_succ, i64_w, i32_w]
                rfl
              refine pure_ (i := 17) (N := some 89) (v := ?_) (a' := ?_) #[true, true, true, true, true, true, true, true, true, true, true, true, true, true, true, true, false, true, false, false] rfl rfl (any_of HT_.out (by kernel_rfl)) (fun _ _ _ h => h) (Or.inl ⟨by first | rfl | kernel_rfl, ?_⟩) ?_ ?_
              rotate_left
              · intro w'
                go_simp
                with_reducible rfl
              rotate_left
              · simp only [Act.put, List.setIfInBounds_toArray, List.set_cons_zero, List.set_cons_succ, i64_w, i32_w]
                rfl
              refine one_ (i := 16) (N := some 88) #[true, true, true, true, true, true, true, true, true, true, true, true, true, true, true, true, true, true, false, false] rfl rfl (one_of HT_.out (by kernel_rfl)) (by decide) (fun K hK => ?_)
              refine goes_ Try.func17 (by kernel_rfl) rfl #[.pointer (some ⟨mb, 0, none⟩), .int .i64 0] (by first | rfl | kernel_rfl) rfl rfl (by (try simp only [List.map_toArray, List.map_cons, List.map_nil]); first | done | rfl) ?_
              refine (thr_wait (hM.below hHeld) (by simp) hthr.out hwl.out).mono ?_
              rintro e w11 ⟨rfl, h11⟩
              obtain rfl := h11
              refine ⟨_, rfl, hK.out _ _ hHeld (fun hHeld => ?_)⟩
              clear hK K
              refine norm_ (a' := ?_) ?_ ?_
              rotate_left
              · show Act.put _ (some 88) _ = _
                simp only [Act.put, List.setIfInBounds_toArray, List.set_cons_zero, List.set_cons_succ, i64_w, i32_w]
                rfl
              refine pure_ (i := 18) (N := some 90) (v := ?_) (a' := ?_) #[true, true, true, true, true, true, true, true, true, true, true, true, true, true, true, true, true, true, true, false] rfl rfl (any_of HT_.out (by kernel_rfl)) (fun _ _ _ h => h) (Or.inl ⟨by first | rfl | kernel_rfl, ?_⟩) ?_ ?_
              rotate_left
              · intro w'
                go_simp
                with_reducible rfl
              rotate_left
              · simp only [Act.put, List.setIfInBounds_toArray, List.set_cons_zero, List.set_cons_succ, i64_w, i32_w]
                rfl
              refine pure_ (i := 19) (N := some 91) (v := ?_) (a' := ?_) #[true, true, true, true, true, true, true, true, true, true, true, true, true, true, true, true, true, true, true, true] rfl rfl (any_of HT_.out (by kernel_rfl)) (fun _ _ _ h => h) (Or.inl ⟨by first | rfl | kernel_rfl, ?_⟩) ?_ ?_
              rotate_left
              · intro w'
                go_simp
                with_reducible rfl
              rotate_left
              · simp only [Act.put, List.setIfInBounds_toArray, List.set_cons_zero, List.set_cons_succ, i64_w, i32_w]
                rfl
              refine done_ (done_of HT_.out (by kernel_rfl)) ?_
              clear HT_ HW_
              have HBx := HB.trans (hHeld.mono HB.size)
              have hBWx := Nat.le_trans hBW hHeld.size
              have hMx := hM.below hHeld
              have hIx := hIW.out
              clear hM HB hBW hHeld hthr hout hwl hIW hc77 hlx hCn hncv hR8 hC8 hb8 hd9 hb10 x10 l10
              obtain ⟨q, hq, hqn⟩ : ∃ q : Nat, f % ((n : Int) + 1) = q ∧ q ≤ n := by
                have h1 := Int.emod_nonneg f (show ((n : Int) + 1) ≠ 0 by omega)
                have h2 := Int.emod_lt_of_pos f (show 0 < ((n : Int) + 1) by omega)
                exact ⟨(f % ((n : Int) + 1)).toNat, by omega, by omega⟩
              go_upto_region 26 with go_in
              rw [hq]
              replace hq := Aside0.mk hq
              go_upto_region 27 with go_in
              go_loopw [98] (fun v98 wr' => ∃ (j : Nat) (M : Mch) (col : Nat → Nat) (cv2 : Value), v98 = .int .i64 j ∧ j ≤ q ∧ Mach wr' base mb col [b0] cv2 pv M ∧ OwnW l n M j ∧ base ≤ wr'.heap.size ∧ Below w.heap.size w wr')
                (fun v98 _ => q - (intOf v98).toNat)
              case atStart => exact ⟨0, M, _, _, rfl, by omega, hMx, hIx, hBWx, HBx⟩
              case round =>
                clear hMx hIx hBWx HBx
                obtain ⟨i, M, col, cv2, rfl, hil, hM, hI, hBW, HB⟩ := hrel
                by_cases hi : i < q
                · have hI' := own_flush hI (by omega)
                  have T0 : Calls Try.prog 13 #[.pointer (some ⟨mb, 0, none⟩), .int .i64 0] _ _ := flushF.calls base mb 0 col [b0] cv2 pv M _ hM (by simp) hBW (own_wr hn8 hI)
                  replace hI' := Aside0.mk hI'
                  clear hI
                  go_wp2_with (first
                    | (go_at_call 13; refine T0.mono ?_; rintro e w6 ⟨rfl, hk6, col6, cv6, hc6, hM6⟩)
                    | go_in)
                  go_roundw
                  case rel => exact ⟨i + 1, _, _, _, by first | rfl | go_num, by omega, hM6, hI'.out, Nat.le_trans hBW hk6.size, HB.trans ((hk6.low hBW).mono hw3)⟩
                  case measure => simp [intOf]; omega
                · obtain rfl : q = i := by omega
                  obtain ⟨hfit, M', kind, hit, t', hst, hcells, hthr, hrs, hif⟩ := own_halt (fun x hx => ⟨(hb.out x hx).1, by have := (hb.out x hx).2; omega⟩) hn8 hI hqn
                  have T0 : Calls Try.prog 12 #[.pointer (some ⟨mb, 0, none⟩), .int .i64 0] _ _ := stepF.calls base mb 0 col [b0] cv2 pv M _ hM (by simp) hBW hfit
                  rw [hst] at T0
                  replace hfit := Aside0.mk hfit
                  replace hst := Aside0.mk hst
                  replace hif := Aside0.mk hif
                  replace hrs := Aside0.mk hrs
                  replace hthr := Aside0.mk (show M'.thr[0]? = some t' by rw [hthr]; rfl)
                  have hW : ∃ want, want = (if q = 0 then 77 else l.getD (q - 1) 0) := ⟨_, rfl⟩
                  obtain ⟨want, hwant⟩ := hW
                  rw [← hwant] at hcells
                  replace hcells := Aside0.mk hcells
                  clear hI
                  have hgo : (q = 0 ∧ want = 77) ∨ (0 < q ∧ want = l.getD (q - 1) 0) := by
                    rcases Nat.eq_zero_or_pos q with h | h
                    · exact Or.inl ⟨h, by rw [hwant, if_pos h]⟩
                    · exact Or.inr ⟨h, by rw [hwant, if_neg (by omega)]⟩
                  clear hwant
                  go_upto_region 31 with go_in
                  rcases hgo with ⟨hq0, hw77⟩ | ⟨hq0, hwl⟩
                  · subst hw77
                    obtain ⟨qi, hqi⟩ : ∃ qi : Int, qi = (q : Int) := ⟨_, rfl⟩
                    have hqz : ¬ (0 : Int) < (q : Int) := by omega
                    replace hqi := Aside0.mk hqi
                    replace hq0 := Aside0.mk hq0
                    go_upto_region 33 with go_in
                    have TCx := fun (wx : World) (colx : Nat → Nat) (cvx : Value) (h : Mach wx base mb colx [b0] cvx pv M') => mach_cells h hcells.out
                    have THx := fun (hv : Bool) (he : t'.halted = hv) (wx : World) (colx : Nat → Nat) (cvx : Value) (h : Mach wx base mb colx [b0] cvx pv M') => thr_halted h (by simp) hthr.out he
                    by_cases hqe : q = n
                    · have hif := hif.out
                      rw [if_pos hqe] at hif
                      obtain ⟨h6, hat⟩ := hif
                      have THx := THx true hat
                      subst h6
                      have hqb : ((q : Int) == (n : Int)) = true := beq_iff_eq.mpr (by omega)
                      replace hqe := Aside0.mk hqe
                      replace hat := Aside0.mk hat
                      clear hqn
                      go_wp2_with (first
                        | (go_at_call 12; refine T0.mono ?_; rintro e w6 ⟨rfl, hk6, col6, cv6, hc6, hM6⟩; have TC := TCx w6 col6 cv6 hM6; unfold eArr; have hfd := fun (a b c h : Value) => field_kind a b c h w6)
                        | (go_at_call 14; refine TC.mono ?_; rintro e w7 ⟨g7b, c7b, rfl, x7, l7, hb7⟩; have TH := THx w7 col6 cv6 (hM6.below hb7))
                        | (go_at_call 18; refine TH.mono ?_; rintro e w8 ⟨rfl, h8⟩; obtain rfl := h8)
                        | go_in)
                      go_ret
                      have HB6 := HB.trans ((hk6.low hBW).mono hw3)
                      exact ⟨rfl, HB6.trans (hb7.mono HB6.size)⟩
                    · have hif := hif.out
                      rw [if_neg hqe] at hif
                      obtain ⟨h6, hat⟩ := hif
                      have THx := THx false hat
                      subst h6
                      have hqb : ((q : Int) == (n : Int)) = false := beq_eq_false_iff_ne.mpr (by omega)
                      replace hqe := Aside0.mk hqe
                      replace hat := Aside0.mk hat
                      clear hqn
                      go_wp2_with (first
                        | (go_at_call 12; refine T0.mono ?_; rintro e w6 ⟨rfl, hk6, col6, cv6, hc6, hM6⟩; have TC := TCx w6 col6 cv6 hM6; unfold eArr; have hfd := fun (a b c h : Value) => field_kind a b c h w6)
                        | (go_at_call 14; refine TC.mono ?_; rintro e w7 ⟨g7b, c7b, rfl, x7, l7, hb7⟩; have TH := THx w7 col6 cv6 (hM6.below hb7))
                        | (go_at_call 18; refine TH.mono ?_; rintro e w8 ⟨rfl, h8⟩; obtain rfl := h8)
                        | go_in)
                      go_ret
                      have HB6 := HB.trans ((hk6.low hBW).mono hw3)
                      exact ⟨rfl, HB6.trans (hb7.mono HB6.size)⟩
                  · obtain ⟨_, _, hrd⟩ := Kd.reads_of_C (enc := Value.int .u64) (d := (0 : Int)) (h1 := fun _ => rfl) hC.out
                    obtain ⟨ad, rfl, hc⟩ := hrd (by omega)
                    have xz := hc (q - 1) (by omega)
                    have xr := (HB.cell (World.block_lt_of_cell? w _ xz)).trans xz
                    rw [← hwl] at xr
                    have hqz : (0 : Int) < (q : Int) := by omega
                    replace hwl := Aside0.mk hwl
                    clear hc hrd xz
                    go_upto_region 33 with go_in
                    clear xr
                    have TCx := fun (wx : World) (colx : Nat → Nat) (cvx : Value) (h : Mach wx base mb colx [b0] cvx pv M') => mach_cells h hcells.out
                    have THx := fun (hv : Bool) (he : t'.halted = hv) (wx : World) (colx : Nat → Nat) (cvx : Value) (h : Mach wx base mb colx [b0] cvx pv M') => thr_halted h (by simp) hthr.out he
                    by_cases hqe : q = n
                    · have hif := hif.out
                      rw [if_pos hqe] at hif
                      obtain ⟨h6, hat⟩ := hif
                      have THx := THx true hat
                      subst h6
                      have hqb : ((q : Int) == (n : Int)) = true := beq_iff_eq.mpr (by omega)
                      replace hqe := Aside0.mk hqe
                      replace hat := Aside0.mk hat
                      clear hqn
                      go_wp2_with (first
                        | (go_at_call 12; refine T0.mono ?_; rintro e w6 ⟨rfl, hk6, col6, cv6, hc6, hM6⟩; have TC := TCx w6 col6 cv6 hM6; unfold eArr; have hfd := fun (a b c h : Value) => field_kind a b c h w6)
                        | (go_at_call 14; refine TC.mono ?_; rintro e w7 ⟨g7b, c7b, rfl, x7, l7, hb7⟩; have TH := THx w7 col6 cv6 (hM6.below hb7))
                        | (go_at_call 18; refine TH.mono ?_; rintro e w8 ⟨rfl, h8⟩; obtain rfl := h8)
                        | go_in)
                      go_ret
                      have HB6 := HB.trans ((hk6.low hBW).mono hw3)
                      exact ⟨rfl, HB6.trans (hb7.mono HB6.size)⟩
                    · have hif := hif.out
                      rw [if_neg hqe] at hif
                      obtain ⟨h6, hat⟩ := hif
                      have THx := THx false hat
                      subst h6
                      have hqb : ((q : Int) == (n : Int)) = false := beq_eq_false_iff_ne.mpr (by omega)
                      replace hqe := Aside0.mk hqe
                      replace hat := Aside0.mk hat
                      clear hqn
                      go_wp2_with (first
                        | (go_at_call 12; refine T0.mono ?_; rintro e w6 ⟨rfl, hk6, col6, cv6, hc6, hM6⟩; have TC := TCx w6 col6 cv6 hM6; unfold eArr; have hfd := fun (a b c h : Value) => field_kind a b c h w6)
                        | (go_at_call 14; refine TC.mono ?_; rintro e w7 ⟨g7b, c7b, rfl, x7, l7, hb7⟩; have TH := THx w7 col6 cv6 (hM6.below hb7))
                        | (go_at_call 18; refine TH.mono ?_; rintro e w8 ⟨rfl, h8⟩; obtain rfl := h8)
                        | go_in)
                      go_ret
                      have HB6 := HB.trans ((hk6.low hBW).mono hw3)
                      exact ⟨rfl, HB6.trans (hb7.mono HB6.size)⟩
end Go.Proofs.Ytaenjbhhpdmhgaa.Tso
