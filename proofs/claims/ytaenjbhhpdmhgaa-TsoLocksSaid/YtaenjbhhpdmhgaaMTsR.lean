/-
No two threads hold a lock at once: the law TsoLocks, walked. Conditions: as each theorem states them.
-/
import Derived.Test.YtaenjbhhpdmhgaaMTsQ
set_option linter.unusedVariables false
set_option linter.unusedSimpArgs false
namespace Go.Proofs.Ytaenjbhhpdmhgaa.Tso
open Go.RowKit Go.Proofs.YtaenjbhhpdmhgaaW.PrintWords Go.Proofs.YtaenjbhhpdmhgaaW.PrintLast Go.Proofs.YtaenjbhhpdmhgaaW.PrintMore
open Go.Proofs.Ytaenjbhhpdmhgaa.Kit
open Go.Proofs.Ytaenjbhhpdmhgaa.PTsoScript
def lockL : List (List S28) := [lockX, lockX, lockX]
theorem lock_im : Pure.imS ((1 : Nat) : Int) ((1 : Nat) : Int) lockL := of_decide_eq_true (by kernel_rfl)
theorem lock_of (V : Option Addr) (cg : Nat) (w : World) (hC : Kd.C (Kd.slice 28 k28) w V 3 lockL) (hcg : 3 ≤ cg) :
    Calls Try.prog 11 #[.agg #[.int .i64 1, .int .i64 1, .slice V 3 cg], .slice none 0 0] w fun e w' => ∃ (mb : Nat) (ts : List Nat) (cv pv : Value), e = .returned (.tuple #[.pointer (some ⟨mb, 0, none⟩), .bool true]) ∧ Mach w' w.heap.size mb (fun _ => 0) ts cv pv ⟨[0], [initThr lockX, initThr lockX, initThr lockX], 0⟩ ∧ Below w.heap.size w w' :=
  of.calls 1 1 lockL V cg none 0 [] w hC hcg (fun t ht => by
    simp only [lockL, List.mem_cons, List.not_mem_nil, or_false] at ht
    rcases ht with rfl | rfl | rfl <;> (show 3 ≤ _; omega)) lock_im (Kd.C_nil _ _)
def LockP (w : World) (base mb : Nat) (ts : List Nat) (col : Nat → Nat) (pv : Value) (held : Bool) (k : Int) (e : Ending) (w' : World) : Prop :=
  ∃ M' kind place hit, StepP w base mb ts col pv M' k kind place hit e w' ∧ LockM M' (heldF held kind hit) ∧ (kind = 5 → hit = !held)
theorem heldF_none (held hit : Bool) : heldF held 0 false = held := by cases held <;> rfl
theorem lock_wr {M : Mch} {held : Bool} (hI : LockM M held) : ∀ t ∈ M.thr, t.wr.length ≤ 4194304 ∧ ∀ x ∈ t.wr, 0 ≤ x.f0 ∧ x.f0 < M.cells.length := by
  intro t ht
  have hc : M.cells.length = 1 := by rw [hI.1]; rfl
  rw [hc]
  rcases (hI.2.2 t ht).at_ with ⟨_, b | b⟩ | ⟨_, b⟩ | ⟨_, b | b⟩ <;> rw [b] <;> simp
theorem lock_12 {w : World} {base mb : Nat} {col : Nat → Nat} {ts : List Nat} {cv pv : Value} {M : Mch} {held : Bool} (hM : Mach w base mb col ts cv pv M) (hI : LockM M held) (hl : ts.length = 3) (hbase : base ≤ w.heap.size) (k : Int) :
    Calls Try.prog 12 #[.pointer (some ⟨mb, 0, none⟩), .int .i64 k] w (LockP w base mb ts col pv held k) := by
  by_cases hk : 0 ≤ k ∧ k < ts.length
  · obtain ⟨q, rfl⟩ := Int.eq_ofNat_of_zero_le hk.1
    refine (stepF.calls base mb q col ts cv pv M w hM (by omega) hbase (lock_fits hI)).mono (fun e w' h => ⟨_, _, _, _, h, lock_step hI q⟩)
  · refine (step_none.calls base mb col ts cv pv M k w hM hbase hk).mono (fun e w' h => ⟨_, _, _, _, h, by rw [heldF_none _ false]; exact hI, fun h => by cases h⟩)
theorem lock_13 {w : World} {base mb : Nat} {col : Nat → Nat} {ts : List Nat} {cv pv : Value} {M : Mch} {held : Bool} (hM : Mach w base mb col ts cv pv M) (hI : LockM M held) (hl : ts.length = 3) (hbase : base ≤ w.heap.size) (k : Int) :
    Calls Try.prog 13 #[.pointer (some ⟨mb, 0, none⟩), .int .i64 k] w (LockP w base mb ts col pv held k) := by
  by_cases hk : 0 ≤ k ∧ k < ts.length
  · obtain ⟨q, rfl⟩ := Int.eq_ofNat_of_zero_le hk.1
    refine (flushF.calls base mb q col ts cv pv M w hM (by omega) hbase (lock_wr hI)).mono (fun e w' h => ⟨_, _, _, _, h, lock_flush hI q⟩)
  · refine (flush_none.calls base mb col ts cv pv M k w hM hbase hk).mono (fun e w' h => ⟨_, _, _, _, h, by rw [heldF_none _ false]; exact hI, fun h => by cases h⟩)
set_option maxHeartbeats 8000000 in
set_option maxRecDepth 100000 in
theorem tsoLocks.calls (V : Option Addr) (cv : Nat) (l : List Int) (w : World) (hC : Kd.C (Kd.int .i8) w V l.length l) (hcv : l.length ≤ cv) (hlm : l.length ≤ maxLen) (hb : ∀ x ∈ l, -128 ≤ x ∧ x ≤ 127) :
    Calls Try.prog 3 #[.slice V l.length cv] w fun e w' => e = .returned (.bool true) ∧ Below w.heap.size w w' := by
  have TA := awake.calls w
  unfold maxLen at hlm
  replace hC := Aside0.mk hC
  replace hb := Aside0.mk hb
  go_enter Try.func3, Try.ntmps3
  go_upto_region 4 with (first
    | (go_at_call 9; refine TA.mono ?_; rintro e w0 ⟨rfl, hb0⟩)
    | ((with_reducible refine gate_dst (N := 18) rfl ?_); refine Kd.R_lit k28 (w0 := w) w.heap.size 28 rfl (N := 18) rfl (xs := rawLock) (inner := rawLock.flatMap cells28) (ok := fun _ => True) (okp := fun _ => True) (by go_simp; exact ⟨rfl, rfl⟩) (reps28 _ _ _ _) (fun _ h => h) trivial hb0 hb0.size (by show 3 ≤ _; omega) ?_; intro v1 w1 hR1 hb1 hg1 hn1; obtain ⟨g, cg, rfl, hgb, hgl, hcg, cells1, hgh⟩ := R_form2 hR1 hn1; rw [show rawLock.length = 3 from rfl] at hR1 ⊢)
    | go_in)
  clear hgl hcg hgh cells1 hg1 hn1 TA hb0
  obtain ⟨X, hX⟩ : ∃ X, X = rawLock := ⟨_, rfl⟩
  rw [← hX] at hR1
  have hXl : Aside0 (X.length = 3) := Aside0.mk (by rw [hX]; rfl)
  replace hX := Aside0.mk hX
  go_wp2
  go_loopw [21] (fun vi wr' => ∃ j : Nat, vi = .int .i64 j ∧ j ≤ 3 ∧ Kd.R k28 28 wr' w.heap.size (fun _ => True) (.slice (some ⟨g, 0, none⟩) 3 cg) (mixS X j) ∧ Below w.heap.size w wr')
    (fun vi _ => 3 - (intOf vi).toNat)
  case atStart => exact ⟨0, rfl, by omega, by rw [mixS_zero]; exact hR1, hb1⟩
  case round =>
    clear hR1 hb1
    obtain ⟨j, rfl, hjL, hR, HB⟩ := hrel
    by_cases hj5 : j < 3
    · have hj : j < X.length := by rw [hXl.out]; exact hj5
      obtain ⟨hl1, hcg, hC⟩ := Kd.R_reads' hR
      obtain ⟨ad, ead, x0, x1, x2, x3, x4, x5, x6, x7⟩ := at_T28 hC (j : Int) (by omega) (by rw [mixS_len]; omega)
      obtain rfl := Option.some.inj ead
      have hadd := add_zero g
      rw [mixS_at X j hj, Int.toNat_natCast, hadd] at x0 x1 x2 x3 x4 x5 x6 x7
      dsimp only at x1 x2 x3 x4 x5 x6 x7
      have hset := mixS_set X j hj
      generalize X[j] = x at x0 x1 x2 x3 x4 x5 x6 x7 hset
      replace hset := Aside0.mk hset
      replace hl1 := Aside0.mk hl1
      replace hj := Aside0.mk hj
      have y0 := x0; have y1 := x1; have y2 := x2; have y3 := x3; have y4 := x4; have y5 := x5; have y6 := x6; have y7 := x7
      clear ead hadd hC
      go_upto_region 7 with go_in
      have e7 := heap_alloc_new wr (Obj.cells #[.int .i64 x.f0, .int .i64 x.f1, .int .i64 x.f2, .int .i64 x.f3, .int .i64 x.f4, .int .i64 x.f5, .int .u64 x.f6, .int .i64 x.f7] 28 (0, 0))
      have hb7 : Below wr.heap.size wr (wr.alloc (Obj.cells #[.int .i64 x.f0, .int .i64 x.f1, .int .i64 x.f2, .int .i64 x.f3, .int .i64 x.f4, .int .i64 x.f5, .int .u64 x.f6, .int .i64 x.f7] 28 (0, 0))) := below_alloc (Below.refl _ _) _
      generalize wr.alloc (Obj.cells #[.int .i64 x.f0, .int .i64 x.f1, .int .i64 x.f2, .int .i64 x.f3, .int .i64 x.f4, .int .i64 x.f5, .int .u64 x.f6, .int .i64 x.f7] 28 (0, 0)) = w7 at e7 hb7 ⊢
      have hR := Kd.R_below hR hb7
      have HB := HB.trans (hb7.mono HB.size)
      generalize wr.heap.size = B7 at e7 ⊢
      clear x0 x1 x2 x3 x4 x5 x6 x7 y0 y1 y2 y3 y4 y5 y6 y7 hb7
      have y0 : w7.cell? ⟨B7, 0, none⟩ = some (.int .i64 x.f0) := (blk_cell e7 0).trans rfl
      have y1 : w7.cell? ⟨B7, 1, none⟩ = some (.int .i64 x.f1) := (blk_cell e7 1).trans rfl
      have y2 : w7.cell? ⟨B7, 2, none⟩ = some (.int .i64 x.f2) := (blk_cell e7 2).trans rfl
      have y3 : w7.cell? ⟨B7, 3, none⟩ = some (.int .i64 x.f3) := (blk_cell e7 3).trans rfl
      have y4 : w7.cell? ⟨B7, 4, none⟩ = some (.int .i64 x.f4) := (blk_cell e7 4).trans rfl
      have y5 : w7.cell? ⟨B7, 5, none⟩ = some (.int .i64 x.f5) := (blk_cell e7 5).trans rfl
      have y6 : w7.cell? ⟨B7, 6, none⟩ = some (.int .u64 x.f6) := (blk_cell e7 6).trans rfl
      have y7 : w7.cell? ⟨B7, 7, none⟩ = some (.int .i64 x.f7) := (blk_cell e7 7).trans rfl
      have TB := bareX_calls x w7
      have hjm : j < (mixS X j).length := by rw [mixS_len]; exact hj.out
      go_upto_region 8 with (first
        | (go_at_call 10; refine TB.mono ?_; rintro e w8 ⟨rfl, hb8⟩; have hR := Kd.R_below hR hb8; have HB := HB.trans (hb8.mono HB.size); obtain ⟨cs, hcl, hcc, hMM⟩ := row28_at hR j hjm (bareX x); obtain ⟨x0, x1, x2, x3, x4, x5, x6, x7⟩ := row28_cells hR j hjm; obtain ⟨cur, hcur⟩ := Kd.R_typed hR g rfl; have f0 := blk_frozen hcur (j * 8); have f1 := blk_frozen hcur (j * 8 + 1); have f2 := blk_frozen hcur (j * 8 + 2); have f3 := blk_frozen hcur (j * 8 + 3); have f4 := blk_frozen hcur (j * 8 + 4); have f5 := blk_frozen hcur (j * 8 + 5); have f6 := blk_frozen hcur (j * 8 + 6); have f7 := blk_frozen hcur (j * 8 + 7))
        | go_in)
      obtain ⟨hrow, hgr⟩ := Kd.R_seg hR (j : Int) (by omega) (by omega) hcl hcc (Nat.le_refl 8) hMM (fun _ h => h.elim)
      have HB9 := HB.grown hgr HB.size (fun k hk => by have := Option.some.inj hk; omega)
      rw [Int.toNat_natCast, hset.out] at hrow
      rw [Int.toNat_natCast] at HB9
      rw [show (World.setCell (World.setCell (World.setCell (World.setCell (World.setCell (World.setCell (World.setCell (World.setCell w8 ⟨g, j * 8, none⟩ (.int .i64 (bareX x).f0)) ⟨g, j * 8 + 1, none⟩ (.int .i64 (bareX x).f1)) ⟨g, j * 8 + 2, none⟩ (.int .i64 (bareX x).f2)) ⟨g, j * 8 + 3, none⟩ (.int .i64 (bareX x).f3)) ⟨g, j * 8 + 4, none⟩ (.int .i64 (bareX x).f4)) ⟨g, j * 8 + 5, none⟩ (.int .i64 (bareX x).f5)) ⟨g, j * 8 + 6, none⟩ (.int .u64 (bareX x).f6)) ⟨g, j * 8 + 7, none⟩ (.int .i64 (bareX x).f7)) = w8.setCells g (j * 8 + 0) (cells28 (bareX x)) from rfl]
      have hrow' : Kd.R k28 28 (w8.setCells g (j * 8 + 0) (cells28 (bareX x))) w.heap.size (fun _ => True) (.slice (some ⟨g, 0, none⟩) 3 cg) (mixS X (j + 1)) := hrow
      have HB9' : Below w.heap.size w (w8.setCells g (j * 8 + 0) (cells28 (bareX x))) := HB9
      generalize w8.setCells g (j * 8 + 0) (cells28 (bareX x)) = w9 at hrow' HB9' ⊢
      clear hrow HB9 hgr hMM hcc hcl x0 x1 x2 x3 x4 x5 x6 x7 f0 f1 f2 f3 f4 f5 f6 f7 hcur y0 y1 y2 y3 y4 y5 y6 y7 e7 TB hR HB hb8
      go_wp2
      go_roundw
      case rel => exact ⟨j + 1, by first | rfl | go_num, by omega, hrow', HB9'⟩
      case measure => simp [intOf]; omega
    · have hjj : j = X.length := by rw [hXl.out]; omega
      have hR' : Kd.R k28 28 wr w.heap.size (fun _ => True) (.slice (some ⟨g, 0, none⟩) 3 cg) (X.map bareX) := by rw [← mixS_all, ← hjj]; exact hR
      replace hjj := Aside0.mk hjj
      clear hR
      have hRX : Kd.R k28 28 wr w.heap.size (fun _ => True) (.slice (some ⟨g, 0, none⟩) 3 cg) lockX := by rw [hX.out] at hR'; exact hR'
      clear hR'
      go_upto_region 10 with (first
        | ((with_reducible refine gate_dst (N := 36) rfl ?_); go_loud (refine Kd.R_lit (Kd.slice 28 k28) (w0 := w) w.heap.size 29 rfl (N := 36) rfl (xs := lockL) (inner := [.slice (some ⟨g, 0, none⟩) 3 cg, .slice (some ⟨g, 0, none⟩) 3 cg, .slice (some ⟨g, 0, none⟩) 3 cg]) (ok := fun _ => True) (okp := fun _ => True) (by go_simp; rfl) (Reps.one ⟨_, rfl, hRX⟩ (Reps.one ⟨_, rfl, hRX⟩ (Reps.one ⟨_, rfl, hRX⟩ (Reps.none _ _)))) (fun _ h => h) trivial HB HB.size (by show 3 ≤ _; omega) ?_; intro v3 w3 hR3 hb3 hg3 hn3; obtain ⟨g3, cg3, rfl, hgb3, hgl3, hcg3, cells3, hgh3⟩ := R_form2 hR3 hn3; rw [show lockL.length = 3 from rfl] at hR3 hcg3 ⊢; have TO := lock_of (some ⟨g3, 0, none⟩) cg3 w3 (Kd.R_reads' hR3).2.2 hcg3))
        | (go_at_call 11; go_loud (refine TO.mono ?_; rintro e w4 ⟨mb, ts, cv4, pv, rfl, hM, hb4⟩))
        | go_in)
      have HB4 := hb3.trans (hb4.mono hb3.size)
      have hBW : w3.heap.size ≤ w4.heap.size := hb4.size
      have hw3 : w.heap.size ≤ w3.heap.size := hb3.size
      clear TO hb4 hb3 hg3 hn3 hgh3 hcg3 hgl3 hgb3 cells3 hR3 hRX HB
      generalize w3.heap.size = base at hM hBW hw3
      have hI := lock_init
      have htl : Aside0 (ts.length = 3) := Aside0.mk hM.len
      generalize (⟨[0], [initThr lockX, initThr lockX, initThr lockX], 0⟩ : Mch) = M0 at hM hI
      go_wp2
      go_loopw [8, 45] (fun v8 v45 wr' => ∃ (j : Nat) (held : Bool) (M : Mch) (col : Nat → Nat) (cv2 : Value), v45 = .int .i64 j ∧ v8 = .bool held ∧ j ≤ l.length ∧ Mach wr' base mb col ts cv2 pv M ∧ LockM M held ∧ base ≤ wr'.heap.size ∧ Below w.heap.size w wr')
        (fun _ v45 _ => l.length - (intOf v45).toNat)
      case atStart => exact ⟨0, false, M0, _, _, rfl, rfl, by omega, hM, hI, hBW, HB4⟩
      case round =>
        clear hM hI hBW HB4
        obtain ⟨j, held, M, col, cv2, rfl, rfl, hjl, hM, hI, hBW, HB⟩ := hrel
        by_cases hj : j < l.length
        · obtain ⟨_, _, hrd⟩ := Kd.reads_of_C (enc := Value.int .i8) (d := (0 : Int)) (h1 := fun _ => rfl) hC.out
          obtain ⟨ad, rfl, hc⟩ := hrd (by omega)
          have xz := hc j hj
          have hpb := hb.out (l.getD j 0) (by rw [List.getD_eq_getElem?_getD, List.getElem?_eq_getElem hj]; exact List.getElem_mem hj)
          have xr := (HB.cell (World.block_lt_of_cell? w _ xz)).trans xz
          generalize l.getD j 0 = p at xr hpb
          clear hc hrd xz
          go_upto_region 17 with go_in
          obtain ⟨kk, hkk⟩ : ∃ kk, kk = (p.tdiv 2).tmod 3 := ⟨_, rfl⟩
          rw [← hkk]
          clear hkk
          go_upto_region 18 with go_in
          have e5 := heap_alloc_new wr (Obj.cells #[.int .i64 0, .int .i64 0, .int .i64 0, .bool false] 40 (0, 0))
          have hbl : Below wr.heap.size wr (wr.alloc (Obj.cells #[.int .i64 0, .int .i64 0, .int .i64 0, .bool false] 40 (0, 0))) := below_alloc (Below.refl _ _) _
          obtain ⟨col5, hc5⟩ : ∃ c : Nat → Nat, c = fun q => if q = wr.heap.size then 99 else col q := ⟨_, rfl⟩
          have hc99 : ts.length < col5 wr.heap.size := by rw [hc5, htl.out]; simp
          have hM5 := (hM.recol (col' := col5) (fun q hq => by rw [hc5]; exact if_neg (Nat.ne_of_lt hq))).below hbl
          have nmb : wr.heap.size ≠ mb := Nat.ne_of_gt (blk_lt hM.blk)
          have nts : wr.heap.size ∉ ts := fun h => Nat.lt_irrefl _ (hM.mem_lt h)
          have HB5 := HB.trans (hbl.mono HB.size)
          have hBW5 := Nat.le_trans hBW hbl.size
          have hB5 : w.heap.size ≤ wr.heap.size := HB.size
          clear hc5 hM hbl HB hBW xr
          generalize wr.alloc (Obj.cells #[.int .i64 0, .int .i64 0, .int .i64 0, .bool false] 40 (0, 0)) = w5 at e5 hM5 HB5 hBW5 ⊢
          generalize wr.heap.size = B5 at e5 hc99 nmb nts hB5 ⊢
          have T12 := lock_12 hM5 hI htl.out hBW5 kk
          have T13 := lock_13 hM5 hI htl.out hBW5 kk
          have hpar : (p.tmod 2 == 0) = true ∨ (p.tmod 2 == 0) = false := by cases p.tmod 2 == 0 <;> simp
          have l5 := blk_lt e5
          replace l5 := Aside0.mk l5
          replace hc99 := Aside0.mk hc99
          rcases hpar with hpar | hpar
          · go_upto_region 21 with (first
              | (go_at_call 12; refine T12.mono ?_; rintro e w6 ⟨M6, kind, place, hit, ⟨rfl, hk6, col6, cv6, hc6, hM6⟩, hI6, hkd⟩; have e6 := (hk6.other l5.out nmb nts hc99.out).trans e5; have y0 := (blk_cell e6 0).trans rfl; have y1 := (blk_cell e6 1).trans rfl; have y2 := (blk_cell e6 2).trans rfl; have y3 := (blk_cell e6 3).trans rfl; have f6 := blk_frozen e6)
              | go_in)
            have HB6 := HB5.trans ((hk6.low hBW5).mono hw3)
            have hBW6 := Nat.le_trans hBW5 hk6.size
            have HB7 := below_ev (g := B5) (a := kk) (b := kind) (c := place) (h := hit) HB6 hB5
            have hM7 := hM6.event (a := kk) (b := kind) (c := place) (h := hit) e6
            have e7 := put_ev (a := kk) (b := kind) (c := place) (h := hit) e6
            have hBW7 : base ≤ ((((w6.setCell ⟨B5, 0, none⟩ (.int .i64 kk)).setCell ⟨B5, 1, none⟩ (.int .i64 kind)).setCell ⟨B5, 2, none⟩ (.int .i64 place)).setCell ⟨B5, 3, none⟩ (.bool hit)).heap.size := by simpa [World.setCell] using hBW6
            clear y0 y1 y2 y3 f6 e6 hM6 hk6 hM5 HB5 hBW5 T12 T13 e5 HB6 hBW6 nmb nts hI hc6
            generalize ((((w6.setCell ⟨B5, 0, none⟩ (.int .i64 kk)).setCell ⟨B5, 1, none⟩ (.int .i64 kind)).setCell ⟨B5, 2, none⟩ (.int .i64 place)).setCell ⟨B5, 3, none⟩ (.bool hit)) = w7 at e7 hM7 HB7 hBW7 ⊢
            have y1 : w7.cell? ⟨B5, 1, none⟩ = some (.int .i64 kind) := (blk_cell e7 1).trans rfl
            have y3 : w7.cell? ⟨B5, 3, none⟩ = some (.bool hit) := (blk_cell e7 3).trans rfl
            by_cases h5 : kind = 5
            · subst h5
              obtain rfl := hkd rfl
              clear hkd
              cases held
              · have hI7 : LockM M6 true := hI6
                clear hI6
                go_wp2
                go_roundw
                case rel => exact ⟨j + 1, true, M6, _, _, by first | rfl | go_num, rfl, by omega, hM7, hI7, hBW7, HB7⟩
                case measure => simp [intOf]; omega
              · have hI7 : LockM M6 true := hI6
                clear hI6
                go_wp2
                go_roundw
                case rel => exact ⟨j + 1, true, M6, _, _, by first | rfl | go_num, rfl, by omega, hM7, hI7, hBW7, HB7⟩
                case measure => simp [intOf]; omega
            · have h5b : (kind == 5) = false := by simpa using h5
              clear hkd
              by_cases h4 : kind = 4
              · subst h4
                have hI7 : LockM M6 false := by have := hI6; simpa [heldF] using this
                clear hI6 h5 h5b
                cases held
                · go_wp2
                  go_roundw
                  case rel => exact ⟨j + 1, false, M6, _, _, by first | rfl | go_num, rfl, by omega, hM7, hI7, hBW7, HB7⟩
                  case measure => simp [intOf]; omega
                · go_wp2
                  go_roundw
                  case rel => exact ⟨j + 1, false, M6, _, _, by first | rfl | go_num, rfl, by omega, hM7, hI7, hBW7, HB7⟩
                  case measure => simp [intOf]; omega
              · have h4b : (kind == 4) = false := by simpa using h4
                have h4c : (kind != 4) = true := by simpa using h4
                have hI7 : LockM M6 held := by have := hI6; simpa [heldF, h4c, h5b] using this
                clear hI6
                cases held
                · go_wp2
                  go_roundw
                  case rel => exact ⟨j + 1, false, M6, _, _, by first | rfl | go_num, rfl, by omega, hM7, hI7, hBW7, HB7⟩
                  case measure => simp [intOf]; omega
                · go_wp2
                  go_roundw
                  case rel => exact ⟨j + 1, true, M6, _, _, by first | rfl | go_num, rfl, by omega, hM7, hI7, hBW7, HB7⟩
                  case measure => simp [intOf]; omega
          · go_upto_region 21 with (first
              | (go_at_call 13; refine T13.mono ?_; rintro e w6 ⟨M6, kind, place, hit, ⟨rfl, hk6, col6, cv6, hc6, hM6⟩, hI6, hkd⟩; have e6 := (hk6.other l5.out nmb nts hc99.out).trans e5; have y0 := (blk_cell e6 0).trans rfl; have y1 := (blk_cell e6 1).trans rfl; have y2 := (blk_cell e6 2).trans rfl; have y3 := (blk_cell e6 3).trans rfl; have f6 := blk_frozen e6)
              | go_in)
            have HB6 := HB5.trans ((hk6.low hBW5).mono hw3)
            have hBW6 := Nat.le_trans hBW5 hk6.size
            have HB7 := below_ev (g := B5) (a := kk) (b := kind) (c := place) (h := hit) HB6 hB5
            have hM7 := hM6.event (a := kk) (b := kind) (c := place) (h := hit) e6
            have e7 := put_ev (a := kk) (b := kind) (c := place) (h := hit) e6
            have hBW7 : base ≤ ((((w6.setCell ⟨B5, 0, none⟩ (.int .i64 kk)).setCell ⟨B5, 1, none⟩ (.int .i64 kind)).setCell ⟨B5, 2, none⟩ (.int .i64 place)).setCell ⟨B5, 3, none⟩ (.bool hit)).heap.size := by simpa [World.setCell] using hBW6
            clear y0 y1 y2 y3 f6 e6 hM6 hk6 hM5 HB5 hBW5 T12 T13 e5 HB6 hBW6 nmb nts hI hc6
            generalize ((((w6.setCell ⟨B5, 0, none⟩ (.int .i64 kk)).setCell ⟨B5, 1, none⟩ (.int .i64 kind)).setCell ⟨B5, 2, none⟩ (.int .i64 place)).setCell ⟨B5, 3, none⟩ (.bool hit)) = w7 at e7 hM7 HB7 hBW7 ⊢
            have y1 : w7.cell? ⟨B5, 1, none⟩ = some (.int .i64 kind) := (blk_cell e7 1).trans rfl
            have y3 : w7.cell? ⟨B5, 3, none⟩ = some (.bool hit) := (blk_cell e7 3).trans rfl
            by_cases h5 : kind = 5
            · subst h5
              obtain rfl := hkd rfl
              clear hkd
              cases held
              · have hI7 : LockM M6 true := hI6
                clear hI6
                go_wp2
                go_roundw
                case rel => exact ⟨j + 1, true, M6, _, _, by first | rfl | go_num, rfl, by omega, hM7, hI7, hBW7, HB7⟩
                case measure => simp [intOf]; omega
              · have hI7 : LockM M6 true := hI6
                clear hI6
                go_wp2
                go_roundw
                case rel => exact ⟨j + 1, true, M6, _, _, by first | rfl | go_num, rfl, by omega, hM7, hI7, hBW7, HB7⟩
                case measure => simp [intOf]; omega
            · have h5b : (kind == 5) = false := by simpa using h5
              clear hkd
              by_cases h4 : kind = 4
              · subst h4
                have hI7 : LockM M6 false := by have := hI6; simpa [heldF] using this
                clear hI6 h5 h5b
                cases held
                · go_wp2
                  go_roundw
                  case rel => exact ⟨j + 1, false, M6, _, _, by first | rfl | go_num, rfl, by omega, hM7, hI7, hBW7, HB7⟩
                  case measure => simp [intOf]; omega
                · go_wp2
                  go_roundw
                  case rel => exact ⟨j + 1, false, M6, _, _, by first | rfl | go_num, rfl, by omega, hM7, hI7, hBW7, HB7⟩
                  case measure => simp [intOf]; omega
              · have h4b : (kind == 4) = false := by simpa using h4
                have h4c : (kind != 4) = true := by simpa using h4
                have hI7 : LockM M6 held := by have := hI6; simpa [heldF, h4c, h5b] using this
                clear hI6
                cases held
                · go_wp2
                  go_roundw
                  case rel => exact ⟨j + 1, false, M6, _, _, by first | rfl | go_num, rfl, by omega, hM7, hI7, hBW7, HB7⟩
                  case measure => simp [intOf]; omega
                · go_wp2
                  go_roundw
                  case rel => exact ⟨j + 1, true, M6, _, _, by first | rfl | go_num, rfl, by omega, hM7, hI7, hBW7, HB7⟩
                  case measure => simp [intOf]; omega
        · have hjj : j = l.length := by omega
          have hcl : M.cells.length = 1 := by rw [hI.1]; rfl
          obtain ⟨A0, c0, rfl⟩ := Kd.R_slice hM.cells
          have TC := cells.calls mb A0 c0 M.cells pv M.steps wr hM.blk (Kd.R_reads' hM.cells).2.2 (by omega)
          rw [hI.1] at TC
          replace hjj := Aside0.mk hjj
          replace hcl := Aside0.mk hcl
          replace hI := Aside0.mk hI
          clear hM
          cases held
          · go_wp2_with (first
              | (go_at_call 14; refine TC.mono ?_; rintro e w5 ⟨v5, rfl, hR5, hb5⟩; obtain ⟨g5, c5, rfl, _, hl5, _⟩ := Kd.R_form hR5 (by decide); have x5 : w5.cell? ⟨g5, 0, none⟩ = some (.int .u64 0) := (Kd.R_celln 0 hR5 0 (by omega) (by decide)).1)
              | go_in)
            go_ret
            exact ⟨rfl, HB.trans (hb5.mono HB.size)⟩
          · go_wp2_with (first
              | (go_at_call 14; refine TC.mono ?_; rintro e w5 ⟨v5, rfl, hR5, hb5⟩; obtain ⟨g5, c5, rfl, _, hl5, _⟩ := Kd.R_form hR5 (by decide); have x5 : w5.cell? ⟨g5, 0, none⟩ = some (.int .u64 1) := (Kd.R_celln 0 hR5 0 (by omega) (by decide)).1)
              | go_in)
            go_ret
            exact ⟨rfl, HB.trans (hb5.mono HB.size)⟩
end Go.Proofs.Ytaenjbhhpdmhgaa.Tso
