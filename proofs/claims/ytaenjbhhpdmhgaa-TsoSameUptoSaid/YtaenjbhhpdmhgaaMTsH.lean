/-
A thread's oldest write is seen: (*Machine).Flush. Conditions: as each theorem states them.
-/
import Derived.Test.YtaenjbhhpdmhgaaMTsG
import Derived.Test.YtaenjbhhpdmhgaaMTsE
set_option linter.unusedVariables false
set_option linter.unusedSimpArgs false
namespace Go.Proofs.Ytaenjbhhpdmhgaa.Tso
open Go.RowKit Go.Proofs.YtaenjbhhpdmhgaaW.PrintWords Go.Proofs.YtaenjbhhpdmhgaaW.PrintLast Go.Proofs.YtaenjbhhpdmhgaaW.PrintMore
open Go.Proofs.Ytaenjbhhpdmhgaa.Kit
open Go.Proofs.Ytaenjbhhpdmhgaa.PTsoScript
set_option maxHeartbeats 8000000 in
set_option maxRecDepth 100000 in
theorem flush_none.calls (base mb : Nat) (col : Nat → Nat) (ts : List Nat) (cv pv : Value) (M : Mch) (k : Int) (w : World) (hM : Mach w base mb col ts cv pv M) (hbase : base ≤ w.heap.size) (hk : ¬ (0 ≤ k ∧ k < ts.length)) :
    Calls Try.prog 13 #[.pointer (some ⟨mb, 0, none⟩), .int .i64 k] w (StepP w base mb ts col pv M k 0 0 false) := by
  have hbl : Below w.heap.size w (w.alloc (Obj.cells #[.int .i64 0, .int .i64 0, .int .i64 0, .bool false] 40 (0, 0))) := below_alloc (Below.refl _ _) _
  have e4 := heap_alloc_new w (Obj.cells #[.int .i64 0, .int .i64 0, .int .i64 0, .bool false] 40 (0, 0))
  go_enter Try.func13, Try.ntmps13
  go_upto_region 1 with go_in
  have hM := hM.below hbl
  have hB := Keep.of (base := base) (mb := mb) (ts := ts) (col := col) hbl
  have hg4 : base ≤ w.heap.size := hbase
  clear hbl
  generalize w.alloc (Obj.cells #[.int .i64 0, .int .i64 0, .int .i64 0, .bool false] 40 (0, 0)) = w1 at *
  generalize hG : w.heap.size = G4 at e4 hg4 ⊢
  have hn4 : w.heap.size ≤ G4 := Nat.le_of_eq hG
  clear hG
  have TG := get.calls mb cv pv M.steps ts k w1 hM.blk (prow_of hM.ptrs)
  rw [dif_neg hk] at TG
  have x40 := (blk_cell e4 0).trans rfl
  have x41 := (blk_cell e4 1).trans rfl
  have x42 := (blk_cell e4 2).trans rfl
  have x43 := (blk_cell e4 3).trans rfl
  have f4 := blk_frozen e4
  go_wp2_with (first | (go_at_call 29; refine TG.mono ?_; rintro e w2 ⟨rfl, h2⟩; obtain rfl := h2.symm))
  refine bodyPost_ret (results_c rfl _ _ G4 40 (eArr k 0 0 false) (0, 0) _ rfl (put_ev e4) Try.underlying40 rfl (by kernel_rfl)) rfl ?_
  exact ⟨rfl, hB.ev hn4, _, _, fun _ _ => rfl, hM.event e4⟩
set_option maxHeartbeats 8000000 in
set_option maxRecDepth 100000 in
theorem flush_empty.calls (base mb k b : Nat) (col : Nat → Nat) (ts : List Nat) (cv pv cvt wv ov : Value) (M : Mch) (t : Thr) (w : World) (hM : Mach w base mb col ts cv pv M) (hk : ts[k]? = some b) (ht : M.thr[k]? = some t)
    (hT : ThrM w base (fun q => col q = k + 1) b t cvt wv ov) (hbase : base ≤ w.heap.size) (hw : t.wr = []) :
    Calls Try.prog 13 #[.pointer (some ⟨mb, 0, none⟩), .int .i64 (k : Int)] w (StepP w base mb ts col pv M (k : Int) 0 0 false) := by
  obtain ⟨cds, at_, rs, wr, out, hd⟩ := t
  simp only at *
  subst hw
  have hkl := hM.len_lt hk
  have hc26 : Aside0 (∀ q, cv.ownBlock = some q → ∃ cs, w.heap[q]? = some (Obj.cells cs 26 (0, 0))) := Aside0.mk (fun q hq => Kd.R_typed hM.cells q hq)
  have hkb : ts[k]'hkl = b := (List.getElem?_eq_some_iff.mp hk).2
  have hbl : Below w.heap.size w (w.alloc (Obj.cells #[.int .i64 0, .int .i64 0, .int .i64 0, .bool false] 40 (0, 0))) := below_alloc (Below.refl _ _) _
  have e4 := heap_alloc_new w (Obj.cells #[.int .i64 0, .int .i64 0, .int .i64 0, .bool false] 40 (0, 0))
  go_enter Try.func13, Try.ntmps13
  go_upto_region 1 with go_in
  have hM := hM.below hbl
  have hT := hT.below hbl
  have hB := Keep.of (base := base) (mb := mb) (ts := ts) (col := col) hbl
  have hg4 : base ≤ w.heap.size := hbase
  clear hbl
  generalize w.alloc (Obj.cells #[.int .i64 0, .int .i64 0, .int .i64 0, .bool false] 40 (0, 0)) = w1 at *
  generalize hG : w.heap.size = G4 at e4 hg4 ⊢
  have hn4 : w.heap.size ≤ G4 := Nat.le_of_eq hG
  clear hG
  have TG := get.calls mb cv pv M.steps ts (k : Int) w1 hM.blk (prow_of hM.ptrs)
  rw [dif_pos ⟨by omega, by omega⟩] at TG
  simp only [Int.toNat_natCast, hkb] at TG
  have hl := hT.len
  obtain ⟨Aw, cw, rfl, hcw, hCw⟩ := Kd.R_reads hT.wr
  have y10 := t_c10 hT.blk hl
  have TP := pop_nil.calls cw Aw w1 hCw
  go_upto_region 5 with (first
    | (go_at_call 29; refine TG.mono ?_; rintro e w2 ⟨rfl, h2⟩; obtain rfl := h2.symm)
    | (go_at_call 32; refine TP.mono ?_; rintro e w5 ⟨vv, rfl, hb5⟩)
    | go_in)
  have hb1 : base ≤ w1.heap.size := Nat.le_trans hM.le (Nat.le_of_lt (blk_lt hM.blk))
  have hbl := hb5.trans (below_alloc (Below.refl _ _) (Obj.cells #[.int .i64 0, .int .u64 0] 82 (0, 0)) |> fun h => below_mono h hb5.size)
  have e4 := blk_below e4 hbl
  have hM := hM.below hbl
  have hB := hB.bel hbl
  clear hbl hb5 hT y10 TP hCw TG
  generalize w5.alloc (Obj.cells #[.int .i64 0, .int .u64 0] 82 (0, 0)) = w6 at *
  have x40 := (blk_cell e4 0).trans rfl
  have x41 := (blk_cell e4 1).trans rfl
  have x42 := (blk_cell e4 2).trans rfl
  have x43 := (blk_cell e4 3).trans rfl
  have f4 := blk_frozen e4
  go_wp2
  refine bodyPost_ret (results_c rfl _ _ G4 40 (eArr k 0 0 false) (0, 0) _ rfl (put_ev e4) Try.underlying40 rfl (by kernel_rfl)) rfl ?_
  exact ⟨rfl, hB.ev hn4, _, _, fun _ _ => rfl, hM.event e4⟩
set_option maxHeartbeats 8000000 in
set_option maxRecDepth 100000 in
theorem flush.calls (base mb k b : Nat) (col : Nat → Nat) (ts : List Nat) (cv pv cvt wv ov : Value) (M : Mch) (t : Thr) (w : World) (hM : Mach w base mb col ts cv pv M) (hk : ts[k]? = some b) (ht : M.thr[k]? = some t)
    (hT : ThrM w base (fun q => col q = k + 1) b t cvt wv ov) (hbase : base ≤ w.heap.size) (x : S82) (l : List S82) (hw : t.wr = x :: l) (hx : 0 ≤ x.f0 ∧ x.f0 < M.cells.length) (hwl : t.wr.length ≤ 4194304) :
    Calls Try.prog 13 #[.pointer (some ⟨mb, 0, none⟩), .int .i64 (k : Int)] w (StepP w base mb ts col pv { cells := M.cells.set x.f0.toNat x.f1, thr := M.thr.set k { t with wr := l }, steps := M.steps } (k : Int) 4 x.f0 false) := by
  obtain ⟨cds, at_, rs, wr, out, hd⟩ := t
  simp only at *
  subst hw
  have hkl := hM.len_lt hk
  have hc26 : Aside0 (∀ q, cv.ownBlock = some q → ∃ cs, w.heap[q]? = some (Obj.cells cs 26 (0, 0))) := Aside0.mk (fun q hq => Kd.R_typed hM.cells q hq)
  have hkb : ts[k]'hkl = b := (List.getElem?_eq_some_iff.mp hk).2
  have hbl : Below w.heap.size w (w.alloc (Obj.cells #[.int .i64 0, .int .i64 0, .int .i64 0, .bool false] 40 (0, 0))) := below_alloc (Below.refl _ _) _
  have e4 := heap_alloc_new w (Obj.cells #[.int .i64 0, .int .i64 0, .int .i64 0, .bool false] 40 (0, 0))
  go_enter Try.func13, Try.ntmps13
  go_upto_region 1 with go_in
  have hM := hM.below hbl
  have hT := hT.below hbl
  have hB := Keep.of (base := base) (mb := mb) (ts := ts) (col := col) hbl
  have hg4 : base ≤ w.heap.size := hbase
  clear hbl
  generalize w.alloc (Obj.cells #[.int .i64 0, .int .i64 0, .int .i64 0, .bool false] 40 (0, 0)) = w1 at *
  generalize hG : w.heap.size = G4 at e4 hg4 ⊢
  have hn4 : w.heap.size ≤ G4 := Nat.le_of_eq hG
  clear hG
  have TG := get.calls mb cv pv M.steps ts (k : Int) w1 hM.blk (prow_of hM.ptrs)
  rw [dif_pos ⟨by omega, by omega⟩] at TG
  simp only [Int.toNat_natCast, hkb] at TG
  have hl := hT.len
  obtain ⟨Aw, cw, rfl, hcw, hCw⟩ := Kd.R_reads hT.wr
  have y10 := t_c10 hT.blk hl
  have TP := pop.calls Aw cw x l w1 hCw hcw (by simp only [List.length_cons] at hwl; omega)
  obtain ⟨c0, c1⟩ := x
  simp only at *
  obtain ⟨i, rfl⟩ := Int.eq_ofNat_of_zero_le hx.1
  have hil : i < M.cells.length := by omega
  go_upto_region 5 with (first
    | (go_at_call 29; refine TG.mono ?_; rintro e w2 ⟨rfl, h2⟩; obtain rfl := h2.symm)
    | (go_at_call 32; refine TP.mono ?_; rintro e w5 ⟨vP, rfl, hP, hb5⟩)
    | go_in)
  have hb1 : base ≤ w1.heap.size := Nat.le_trans hM.le (Nat.le_of_lt (blk_lt hM.blk))
  have hP := Kd.R_lower hP hb1
  have e6 := heap_alloc_new w5 (Obj.cells #[.int .i64 (i : Int), .int .u64 c1] 82 (0, 0))
  have hbl := hb5.trans (below_alloc (Below.refl _ _) (Obj.cells #[.int .i64 (i : Int), .int .u64 c1] 82 (0, 0)) |> fun h => below_mono h hb5.size)
  have e4 := blk_below e4 hbl
  have hM := hM.below hbl
  have hT := hT.below hbl
  have hP := Kd.R_alloc hP (Obj.cells #[.int .i64 (i : Int), .int .u64 c1] 82 (0, 0))
  have hB := hB.bel hbl
  clear hbl hb5 y10 TP hCw TG
  generalize w5.alloc (Obj.cells #[.int .i64 (i : Int), .int .u64 c1] 82 (0, 0)) = w6 at *
  generalize w5.heap.size = G6 at *
  obtain ⟨AP, cP, hvP⟩ := Kd.R_slice hP
  generalize hnP : l.length = nP at hvP
  subst hvP
  replace hnP := Aside0.mk hnP
  have y10 := t_c10 hT.blk hl
  have f10 := blk_frozen hT.blk 10
  go_upto_region 8 with go_in
  have hTn := hT.setWr hP
  have hM := hM.setT hk hT.blk 10 (.slice AP nP cP) _ _ _ _ hTn
  have hB := hB.setC (p := ⟨b, 10, none⟩) (Or.inr ⟨hT.le, Or.inr (Or.inl (List.mem_of_getElem? hk))⟩) (.slice AP nP cP)
  have e4 := blk_far (p := ⟨b, 10, none⟩) e4 (blk_ne e4 hT.blk (by decide)) (.slice AP nP cP)
  have e6 := blk_far (p := ⟨b, 10, none⟩) e6 (blk_ne e6 hT.blk (by decide)) (.slice AP nP cP)
  clear y10 f10 hT hTn hP
  generalize w6.setCell ⟨b, 10, none⟩ (.slice AP nP cP) = w7 at *
  obtain ⟨g, cap, rfl, hgb, hgl, _⟩ := Kd.R_form hM.cells (by show 0 < M.cells.length; omega)
  have x0 : w7.cell? ⟨mb, 0, none⟩ = some (.slice (some ⟨g, 0, none⟩) M.cells.length cap) := (blk_cell hM.blk 0).trans rfl
  have hxi := hM.at_cell i hil
  obtain ⟨_, xc, fc, _, _⟩ := hxi
  have z60 := (blk_cell e6 0).trans rfl
  have z61 := (blk_cell e6 1).trans rfl
  have hil2 : (i : Int) < (M.cells.length : Int) := by omega
  have hi02 : (0 : Int) ≤ (i : Int) := by omega
  go_upto_region 8 with go_in
  go_region
  have e4 := blk_far (p := ⟨g, i, none⟩) e4 (hM.ne_cell e4 (by decide)) (.int .u64 c1)
  have e6 := blk_far (p := ⟨g, i, none⟩) e6 (hM.ne_cell e6 (by decide)) (.int .u64 c1)
  have hM := hM.put i c1
  have hB := hB.setC (p := ⟨g, i, none⟩) (Or.inr ⟨hgb, Or.inr (Or.inr ⟨Nat.le_trans (Nat.le_of_eq (hM.cells.1 g rfl)) (Nat.zero_le _), hc26.out g rfl⟩)⟩) (.int .u64 c1)
  clear x0 xc fc z60 z61
  generalize w7.setCell ⟨g, i, none⟩ (.int .u64 c1) = w8 at *
  have e4 := blk_drew e4
  have e6 := blk_drew e6
  have hM := hM.below (below_drew (Below.refl _ _))
  have hB := hB.drew
  generalize w8.drew = w9 at *
  have z60 := (blk_cell e6 0).trans rfl
  have x40 := (blk_cell e4 0).trans rfl
  have x41 := (blk_cell e4 1).trans rfl
  have x42 := (blk_cell e4 2).trans rfl
  have x43 := (blk_cell e4 3).trans rfl
  have f4 := blk_frozen e4
  go_wp2
  refine bodyPost_ret (results_c rfl _ _ G4 40 (eArr k 4 i false) (0, 0) _ rfl (put_ev e4) Try.underlying40 rfl (by kernel_rfl)) rfl ?_
  exact ⟨rfl, hB.ev hn4, _, _, fun _ _ => rfl, hM.event e4⟩
end Go.Proofs.Ytaenjbhhpdmhgaa.Tso
