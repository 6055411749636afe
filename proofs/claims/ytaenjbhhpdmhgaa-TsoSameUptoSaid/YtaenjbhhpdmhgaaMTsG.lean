/-
A step of a thread that there is; its oldest write seen: (*Machine).Step, Flush. Conditions: as each theorem states them.
-/
import Derived.Test.YtaenjbhhpdmhgaaMTsF
set_option linter.unusedVariables false
set_option linter.unusedSimpArgs false
namespace Go.Proofs.Ytaenjbhhpdmhgaa.Tso
open Go.RowKit Go.Proofs.YtaenjbhhpdmhgaaW.PrintWords Go.Proofs.YtaenjbhhpdmhgaaW.PrintLast Go.Proofs.YtaenjbhhpdmhgaaW.PrintMore
open Go.Proofs.Ytaenjbhhpdmhgaa.Kit
open Go.Proofs.Ytaenjbhhpdmhgaa.PTsoScript
theorem cell_lt {w : World} {a : Addr} {v : Value} (h : w.cell? a = some v) : a.block < w.heap.size := by
  unfold World.cell? at h
  split at h
  · rename_i hb
    exact (Array.getElem?_eq_some_iff.mp hb).1
  · cases h
theorem rd28_at (xs : List S28) (i : Nat) (h : i < xs.length) : rd_T28 xs (i : Int) = xs[i] := by simp [rd_T28, List.getD_eq_getElem?_getD, List.getElem?_eq_getElem h]
theorem ThrM.setM {W : World} {base mb : Nat} {col : Nat → Nat} {ts : List Nat} {cv pv : Value} {M : Mch} {ok : Nat → Prop} {b : Nat} {t : Thr} {v wv ov : Value} (hT : ThrM W base ok b t v wv ov) (h : Mach W base mb col ts cv pv M) (u : Value) : ThrM (W.setCell ⟨mb, 2, none⟩ u) base ok b t v wv ov :=
  ⟨blk_far hT.blk (blk_ne hT.blk h.blk (by decide)) _, hT.len, row_set hT.codes h.blk rfl (by decide) _ _, row_set hT.wr h.blk rfl (by decide) _ _, row_set hT.out h.blk rfl (by decide) _ _, hT.le⟩
theorem Mach.len_lt {W : World} {base mb : Nat} {col : Nat → Nat} {ts : List Nat} {cv pv : Value} {M : Mch} {k b : Nat} (hM : Mach W base mb col ts cv pv M) (hk : ts[k]? = some b) : k < ts.length := (List.getElem?_eq_some_iff.mp hk).1
set_option maxHeartbeats 8000000 in
set_option maxRecDepth 100000 in
theorem step_halted.calls (base mb k b : Nat) (col : Nat → Nat) (ts : List Nat) (cv pv cvt wv ov : Value) (M : Mch) (t : Thr) (w : World) (hM : Mach w base mb col ts cv pv M) (hk : ts[k]? = some b) (ht : M.thr[k]? = some t)
    (hT : ThrM w base (fun q => col q = k + 1) b t cvt wv ov) (hbase : base ≤ w.heap.size) (hh : t.halted = true) :
    Calls Try.prog 12 #[.pointer (some ⟨mb, 0, none⟩), .int .i64 (k : Int)] w (StepP w base mb ts col pv M (k : Int) 0 0 false) := by
  obtain ⟨cds, at_, rs, wr, out, hd⟩ := t
  simp only at *
  subst hh
  have hkl := hM.len_lt hk
  have hc26 : Aside0 (∀ q, cv.ownBlock = some q → ∃ cs, w.heap[q]? = some (Obj.cells cs 26 (0, 0))) := Aside0.mk (fun q hq => Kd.R_typed hM.cells q hq)
  have hkb : ts[k]'hkl = b := (List.getElem?_eq_some_iff.mp hk).2
  have hbl : Below w.heap.size w (w.alloc (Obj.cells #[.int .i64 0, .int .i64 0, .int .i64 0, .bool false] 40 (0, 0))) := below_alloc (Below.refl _ _) _
  have e4 := heap_alloc_new w (Obj.cells #[.int .i64 0, .int .i64 0, .int .i64 0, .bool false] 40 (0, 0))
  go_enter Try.func12, Try.ntmps12
  go_upto_region 1 with go_in
  have hM := hM.below hbl
  have hT := hT.below hbl
  have hB := Keep.of (base := base) (mb := mb) (ts := ts) (col := col) hbl
  have hg4 : base ≤ w.heap.size := hbase
  clear hbl
  generalize w.alloc (Obj.cells #[.int .i64 0, .int .i64 0, .int .i64 0, .bool false] 40 (0, 0)) = w1 at *
  generalize hG : w.heap.size = G4 at e4 hg4 ⊢
  have hn4 : w.heap.size ≤ G4 := Nat.le_of_eq hG
  clear hG
  have TG := get.calls mb cv pv M.steps ts (k : Int) w1 hM.blk (prow_of hM.ptrs)
  rw [dif_pos ⟨by omega, by omega⟩] at TG
  simp only [Int.toNat_natCast, hkb] at TG
  have hl := hT.len
  have y12 := t_c12 hT.blk hl
  have x40 := (blk_cell e4 0).trans rfl
  have x41 := (blk_cell e4 1).trans rfl
  have x42 := (blk_cell e4 2).trans rfl
  have x43 := (blk_cell e4 3).trans rfl
  have f4 := blk_frozen e4
  go_wp2_with (first | (go_at_call 29; refine TG.mono ?_; rintro e w2 ⟨rfl, h2⟩; obtain rfl := h2.symm))
  refine bodyPost_ret (results_c rfl _ _ G4 40 (eArr k 0 0 false) (0, 0) _ rfl (put_ev e4) Try.underlying40 rfl (by kernel_rfl)) rfl ?_
  exact ⟨rfl, hB.ev hn4, _, _, fun _ _ => rfl, hM.event e4⟩
set_option maxHeartbeats 8000000 in
set_option maxRecDepth 100000 in
theorem step_wait.calls (base mb k b : Nat) (col : Nat → Nat) (ts : List Nat) (cv pv cvt wv ov : Value) (M : Mch) (t : Thr) (w : World) (hM : Mach w base mb col ts cv pv M) (hk : ts[k]? = some b) (ht : M.thr[k]? = some t)
    (hT : ThrM w base (fun q => col q = k + 1) b t cvt wv ov) (hbase : base ≤ w.heap.size) (hh : t.halted = false) (p : Nat) (hp : p < t.codes.length) (hat : t.at_ = (p : Int)) (hop : t.codes[p].f0 = 8 ∨ t.codes[p].f0 = 10 ∨ t.codes[p].f0 = 11 ∨ t.codes[p].f0 = 13) (hw : 0 < t.wr.length) :
    Calls Try.prog 12 #[.pointer (some ⟨mb, 0, none⟩), .int .i64 (k : Int)] w (StepP w base mb ts col pv M (k : Int) 0 0 false) := by
  obtain ⟨cds, at_, rs, wr, out, hd⟩ := t
  simp only at *
  subst hh hat
  have hkl := hM.len_lt hk
  have hc26 : Aside0 (∀ q, cv.ownBlock = some q → ∃ cs, w.heap[q]? = some (Obj.cells cs 26 (0, 0))) := Aside0.mk (fun q hq => Kd.R_typed hM.cells q hq)
  have hkb : ts[k]'hkl = b := (List.getElem?_eq_some_iff.mp hk).2
  have hbl : Below w.heap.size w (w.alloc (Obj.cells #[.int .i64 0, .int .i64 0, .int .i64 0, .bool false] 40 (0, 0))) := below_alloc (Below.refl _ _) _
  have e4 := heap_alloc_new w (Obj.cells #[.int .i64 0, .int .i64 0, .int .i64 0, .bool false] 40 (0, 0))
  go_enter Try.func12, Try.ntmps12
  go_upto_region 1 with go_in
  have hM := hM.below hbl
  have hT := hT.below hbl
  have hB := Keep.of (base := base) (mb := mb) (ts := ts) (col := col) hbl
  have hg4 : base ≤ w.heap.size := hbase
  clear hbl
  generalize w.alloc (Obj.cells #[.int .i64 0, .int .i64 0, .int .i64 0, .bool false] 40 (0, 0)) = w1 at *
  generalize hG : w.heap.size = G4 at e4 hg4 ⊢
  have hn4 : w.heap.size ≤ G4 := Nat.le_of_eq hG
  clear hG
  have TG := get.calls mb cv pv M.steps ts (k : Int) w1 hM.blk (prow_of hM.ptrs)
  rw [dif_pos ⟨by omega, by omega⟩] at TG
  simp only [Int.toNat_natCast, hkb] at TG
  have hl := hT.len
  have y12 := t_c12 hT.blk hl
  replace hp : p < cds.length := hp
  obtain ⟨Ac, cc, rfl, hcc, hCc⟩ := Kd.R_reads hT.codes
  obtain ⟨Aw, cw, rfl, hcw, hCw⟩ := Kd.R_reads hT.wr
  have y0 := t_c0 hT.blk
  have y1 := t_c1 hT.blk
  have y10 := t_c10 hT.blk hl
  have lb := blk_lt hT.blk
  obtain ⟨ad, eA, z0, z1, z2, z3, z4, z5, z6, z7⟩ := at_T28 hCc (p : Int) (by omega) (by omega)
  rw [rd28_at cds p hp, Int.toNat_natCast] at z0 z1 z2 z3 z4 z5 z6 z7
  subst eA
  have lad : (ad.add (p * 8)).block < w1.heap.size := cell_lt z0
  have lg4 := blk_lt e4
  have hpi : (p : Int) < (cds.length : Int) := by omega
  have hp0 : (0 : Int) ≤ (p : Int) := by omega
  obtain ⟨x, hx⟩ : ∃ x, x = cds[p] := ⟨_, rfl⟩
  rw [← hx] at z0 z1 z2 z3 z4 z5 z6 z7
  replace hx := Aside0.mk hx
  obtain ⟨o, d, tw, a1, b1, c1, vl, tg⟩ := x
  simp only at z0 z1 z2 z3 z4 z5 z6 z7
  rw [← hx.out] at hop
  simp only at hop
  go_upto_region 4 with (first
    | (go_at_call 29; refine TG.mono ?_; rintro e w2 ⟨rfl, h2⟩; obtain rfl := h2.symm)
    | go_in)
  go_region
  have e6 := heap_alloc_new w1 (Obj.cells #[.int .i64 o, .int .i64 d, .int .i64 tw, .int .i64 a1, .int .i64 b1, .int .i64 c1, .int .u64 vl, .int .i64 tg] 28 (0, 0))
  have hbl : Below w1.heap.size w1 (w1.alloc (Obj.cells #[.int .i64 o, .int .i64 d, .int .i64 tw, .int .i64 a1, .int .i64 b1, .int .i64 c1, .int .u64 vl, .int .i64 tg] 28 (0, 0))) := below_alloc (Below.refl _ _) _
  have hb1 : base ≤ w1.heap.size := Nat.le_trans hM.le (Nat.le_of_lt (blk_lt hM.blk))
  have e4 := blk_below e4 hbl
  have hM := hM.below hbl
  have hT := hT.below hbl
  have hB := hB.bel hbl
  clear hbl y0 y1 y10 y12 z0 z1 z2 z3 z4 z5 z6 z7 lb lad lg4 hCc hCw TG
  generalize w1.alloc (Obj.cells #[.int .i64 o, .int .i64 d, .int .i64 tw, .int .i64 a1, .int .i64 b1, .int .i64 c1, .int .u64 vl, .int .i64 tg] 28 (0, 0)) = w2 at *
  generalize w1.heap.size = G6 at *
  have e4 := blk_drew e4
  have e6 := blk_drew e6
  have hM := hM.below (below_drew (Below.refl _ _))
  have hT := hT.below (below_drew (Below.refl _ _))
  have hB := hB.drew
  generalize w2.drew = w3 at *
  have y10 := t_c10 hT.blk hl
  have z60 := (blk_cell e6 0).trans rfl
  rcases hop with h | h | h | h
  all_goals
    subst h
    have hwi : (wr.length : Int) > 0 := by omega
    have x40 := (blk_cell e4 0).trans rfl
    have x41 := (blk_cell e4 1).trans rfl
    have x42 := (blk_cell e4 2).trans rfl
    have x43 := (blk_cell e4 3).trans rfl
    have f4 := blk_frozen e4
    go_wp2
    refine bodyPost_ret (results_c rfl _ _ G4 40 (eArr k 0 0 false) (0, 0) _ rfl (put_ev e4) Try.underlying40 rfl (by kernel_rfl)) rfl ?_
    exact ⟨rfl, hB.ev hn4, _, _, fun _ _ => rfl, hM.event e4⟩
set_option maxHeartbeats 8000000 in
set_option maxRecDepth 100000 in
theorem step.calls (base mb k b : Nat) (col : Nat → Nat) (ts : List Nat) (cv pv cvt wv ov : Value) (M : Mch) (t : Thr) (w : World) (hM : Mach w base mb col ts cv pv M) (hk : ts[k]? = some b) (ht : M.thr[k]? = some t)
    (hT : ThrM w base (fun q => col q = k + 1) b t cvt wv ov) (hbase : base ≤ w.heap.size) (hh : t.halted = false) (p : Nat) (hp : p < t.codes.length) (hat : t.at_ = (p : Int)) (hgo : (t.codes[p].f0 = 8 ∨ t.codes[p].f0 = 10 ∨ t.codes[p].f0 = 11 ∨ t.codes[p].f0 = 13) → t.wr.length = 0)
    (cells' : List Int) (t' : Thr) (kind place : Int) (hit : Bool)
    (hdo : ∀ (w1 : World) (col1 : Nat → Nat) (cv1 cvt1 wv1 ov1 : Value) (ge : Nat) (ce : Array Value), Mach w1 base mb col1 ts cv1 pv { M with steps := wrap64 (M.steps + 1) } → ThrM w1 base (fun q => col1 q = k + 1) b t cvt1 wv1 ov1 → base ≤ w1.heap.size → w1.heap[ge]? = some (Obj.cells ce 40 (0, 0)) →
      Calls Try.prog 31 #[.pointer (some ⟨mb, 0, none⟩), .pointer (some ⟨b, 0, none⟩), .agg #[.int .i64 t.codes[p].f0, .int .i64 t.codes[p].f1, .int .i64 t.codes[p].f2, .int .i64 t.codes[p].f3, .int .i64 t.codes[p].f4, .int .i64 t.codes[p].f5, .int .u64 t.codes[p].f6, .int .i64 t.codes[p].f7]] w1 (DoP w1 base mb ts col1 pv k { M with steps := wrap64 (M.steps + 1) } cells' t' kind place hit ge ce)) :
    Calls Try.prog 12 #[.pointer (some ⟨mb, 0, none⟩), .int .i64 (k : Int)] w (StepP w base mb ts col pv { cells := cells', thr := M.thr.set k t', steps := wrap64 (M.steps + 1) } (k : Int) kind place hit) := by
  obtain ⟨cds, at_, rs, wr, out, hd⟩ := t
  simp only at *
  subst hh hat
  have hkl := hM.len_lt hk
  have hc26 : Aside0 (∀ q, cv.ownBlock = some q → ∃ cs, w.heap[q]? = some (Obj.cells cs 26 (0, 0))) := Aside0.mk (fun q hq => Kd.R_typed hM.cells q hq)
  have hkb : ts[k]'hkl = b := (List.getElem?_eq_some_iff.mp hk).2
  have hbl : Below w.heap.size w (w.alloc (Obj.cells #[.int .i64 0, .int .i64 0, .int .i64 0, .bool false] 40 (0, 0))) := below_alloc (Below.refl _ _) _
  have e4 := heap_alloc_new w (Obj.cells #[.int .i64 0, .int .i64 0, .int .i64 0, .bool false] 40 (0, 0))
  go_enter Try.func12, Try.ntmps12
  go_upto_region 1 with go_in
  have hM := hM.below hbl
  have hT := hT.below hbl
  have hB := Keep.of (base := base) (mb := mb) (ts := ts) (col := col) hbl
  have hg4 : base ≤ w.heap.size := hbase
  clear hbl
  generalize w.alloc (Obj.cells #[.int .i64 0, .int .i64 0, .int .i64 0, .bool false] 40 (0, 0)) = w1 at *
  generalize hG : w.heap.size = G4 at e4 hg4 ⊢
  have hn4 : w.heap.size ≤ G4 := Nat.le_of_eq hG
  clear hG
  have TG := get.calls mb cv pv M.steps ts (k : Int) w1 hM.blk (prow_of hM.ptrs)
  rw [dif_pos ⟨by omega, by omega⟩] at TG
  simp only [Int.toNat_natCast, hkb] at TG
  have hl := hT.len
  have y12 := t_c12 hT.blk hl
  replace hp : p < cds.length := hp
  obtain ⟨Ac, cc, rfl, hcc, hCc⟩ := Kd.R_reads hT.codes
  obtain ⟨Aw, cw, rfl, hcw, hCw⟩ := Kd.R_reads hT.wr
  have y0 := t_c0 hT.blk
  have y1 := t_c1 hT.blk
  have y10 := t_c10 hT.blk hl
  have lb := blk_lt hT.blk
  obtain ⟨ad, eA, z0, z1, z2, z3, z4, z5, z6, z7⟩ := at_T28 hCc (p : Int) (by omega) (by omega)
  rw [rd28_at cds p hp, Int.toNat_natCast] at z0 z1 z2 z3 z4 z5 z6 z7
  subst eA
  have lad : (ad.add (p * 8)).block < w1.heap.size := cell_lt z0
  have lg4 := blk_lt e4
  have hpi : (p : Int) < (cds.length : Int) := by omega
  have hp0 : (0 : Int) ≤ (p : Int) := by omega
  obtain ⟨x, hx⟩ : ∃ x, x = cds[p] := ⟨_, rfl⟩
  rw [← hx] at z0 z1 z2 z3 z4 z5 z6 z7
  replace hx := Aside0.mk hx
  obtain ⟨o, d, tw, a1, b1, c1, vl, tg⟩ := x
  simp only at z0 z1 z2 z3 z4 z5 z6 z7
  rw [← hx.out] at hgo
  simp only at hgo
  go_upto_region 4 with (first
    | (go_at_call 29; refine TG.mono ?_; rintro e w2 ⟨rfl, h2⟩; obtain rfl := h2.symm)
    | go_in)
  go_region
  have e6 := heap_alloc_new w1 (Obj.cells #[.int .i64 o, .int .i64 d, .int .i64 tw, .int .i64 a1, .int .i64 b1, .int .i64 c1, .int .u64 vl, .int .i64 tg] 28 (0, 0))
  have hbl : Below w1.heap.size w1 (w1.alloc (Obj.cells #[.int .i64 o, .int .i64 d, .int .i64 tw, .int .i64 a1, .int .i64 b1, .int .i64 c1, .int .u64 vl, .int .i64 tg] 28 (0, 0))) := below_alloc (Below.refl _ _) _
  have hb1 : base ≤ w1.heap.size := Nat.le_trans hM.le (Nat.le_of_lt (blk_lt hM.blk))
  have e4 := blk_below e4 hbl
  have hM := hM.below hbl
  have hT := hT.below hbl
  have hB := hB.bel hbl
  clear hbl y0 y1 y10 y12 z0 z1 z2 z3 z4 z5 z6 z7 lb lad lg4 hCc hCw TG
  generalize w1.alloc (Obj.cells #[.int .i64 o, .int .i64 d, .int .i64 tw, .int .i64 a1, .int .i64 b1, .int .i64 c1, .int .u64 vl, .int .i64 tg] 28 (0, 0)) = w2 at *
  generalize w1.heap.size = G6 at *
  have e4 := blk_drew e4
  have e6 := blk_drew e6
  have hM := hM.below (below_drew (Below.refl _ _))
  have hT := hT.below (below_drew (Below.refl _ _))
  have hB := hB.drew
  generalize w2.drew = w3 at *
  have y10 := t_c10 hT.blk hl
  have z60 := (blk_cell e6 0).trans rfl
  by_cases h8 : o = 8
  · subst h8
    have hwi : ¬ (wr.length : Int) > 0 := by have := hgo (by decide); omega
    go_upto_region 12 with go_in
    have TA := add.calls mb cv pv M.steps w3 hM.blk
    go_upto_region 13 with (first
      | (go_at_call 30; refine TA.mono ?_; rintro e w4 ⟨rfl, rfl⟩)
      | go_in)
    have hT := hT.setM hM (.int .i64 (wrap64 (M.steps + 1)))
    have e4 := blk_far (p := ⟨mb, 2, none⟩) e4 (blk_ne e4 hM.blk (by decide)) (.int .i64 (wrap64 (M.steps + 1)))
    have e6 := blk_far (p := ⟨mb, 2, none⟩) e6 (blk_ne e6 hM.blk (by decide)) (.int .i64 (wrap64 (M.steps + 1)))
    have hB := hB.setC (p := ⟨mb, 2, none⟩) (Or.inr ⟨hM.le, Or.inl rfl⟩) (.int .i64 (wrap64 (M.steps + 1)))
    have hM := hM.setM (wrap64 (M.steps + 1))
    clear TA z60 y10
    generalize w3.setCell ⟨mb, 2, none⟩ (.int .i64 (wrap64 (M.steps + 1))) = w4 at *
    have TD := hdo w4 col cv _ _ _ G4 _ hM hT (Nat.le_trans hM.le (Nat.le_of_lt (blk_lt hM.blk))) e4
    rw [← hx.out] at TD
    simp only at TD
    have z60 := (blk_cell e6 0).trans rfl
    have z61 := (blk_cell e6 1).trans rfl
    have z62 := (blk_cell e6 2).trans rfl
    have z63 := (blk_cell e6 3).trans rfl
    have z64 := (blk_cell e6 4).trans rfl
    have z65 := (blk_cell e6 5).trans rfl
    have z66 := (blk_cell e6 6).trans rfl
    have z67 := (blk_cell e6 7).trans rfl
    have hb4 : base ≤ w4.heap.size := Nat.le_trans hM.le (Nat.le_of_lt (blk_lt hM.blk))
    go_upto_region 14 with (first
      | (go_at_call 31; refine TD.mono ?_; rintro e w5 ⟨rfl, hb5, e45, col5, cv5, hc5, hM5⟩)
      | go_in)
    have e7 := heap_alloc_new w5 (Obj.cells #[.int .i64 0, .int .i64 kind, .int .i64 place, .bool hit] 40 (0, 0))
    have hbl : Below w5.heap.size w5 (w5.alloc (Obj.cells #[.int .i64 0, .int .i64 kind, .int .i64 place, .bool hit] 40 (0, 0))) := below_alloc (Below.refl _ _) _
    have hn7 : w.heap.size ≤ w5.heap.size := Nat.le_trans hB.size hb5.size
    have hc5 : ∀ q, q < w.heap.size → col5 q = col q := fun q hq => hc5 q (Nat.lt_of_lt_of_le hq hB.size)
    have hb55 : base ≤ w5.heap.size := Nat.le_trans hM5.le (Nat.le_of_lt (blk_lt hM5.blk))
    have n47 : G4 ≠ w5.heap.size := Nat.ne_of_lt (blk_lt e45)
    have e4 := blk_below e45 hbl
    have hM := hM5.below hbl
    have hB := (hB.trans hb5).bel hbl
    clear hbl hb5 e45 hM5 TD z60 z61 z62 z63 z64 z65 z66 z67 e6 hT
    generalize w5.alloc (Obj.cells #[.int .i64 0, .int .i64 kind, .int .i64 place, .bool hit] 40 (0, 0)) = w6 at *
    generalize w5.heap.size = G7 at *
    have x70 := (blk_cell e7 0).trans rfl
    have f70 := blk_frozen e7 0
    go_upto_region 15 with go_in
    have hM := hM.other e7 0 (.int .i64 (k : Int))
    have e4 := blk_far (p := ⟨G7, 0, none⟩) e4 n47 (.int .i64 (k : Int))
    have hB := hB.setC (p := ⟨G7, 0, none⟩) (Or.inl hn7) (.int .i64 (k : Int))
    have e7 := blk_put (cs' := eArr k kind place hit) e7 0 (.int .i64 (k : Int)) rfl
    clear x70 f70
    generalize w6.setCell ⟨G7, 0, none⟩ (.int .i64 (k : Int)) = w7 at *
    have x70 := (blk_cell e7 0).trans rfl
    have x71 := (blk_cell e7 1).trans rfl
    have x72 := (blk_cell e7 2).trans rfl
    have x73 := (blk_cell e7 3).trans rfl
    have x40 := (blk_cell e4 0).trans rfl
    have x41 := (blk_cell e4 1).trans rfl
    have x42 := (blk_cell e4 2).trans rfl
    have x43 := (blk_cell e4 3).trans rfl
    have f4 := blk_frozen e4
    go_wp2
    refine bodyPost_ret (results_c rfl _ _ G4 40 (eArr k kind place hit) (0, 0) _ rfl (put_ev e4) Try.underlying40 rfl (by kernel_rfl)) rfl ?_
    exact ⟨rfl, hB.ev hn4, _, _, hc5, hM.event e4⟩
  · by_cases h10 : o = 10
    · subst h10
      have hwi : ¬ (wr.length : Int) > 0 := by have := hgo (by decide); omega
      go_upto_region 12 with go_in
      have TA := add.calls mb cv pv M.steps w3 hM.blk
      go_upto_region 13 with (first
        | (go_at_call 30; refine TA.mono ?_; rintro e w4 ⟨rfl, rfl⟩)
        | go_in)
      have hT := hT.setM hM (.int .i64 (wrap64 (M.steps + 1)))
      have e4 := blk_far (p := ⟨mb, 2, none⟩) e4 (blk_ne e4 hM.blk (by decide)) (.int .i64 (wrap64 (M.steps + 1)))
      have e6 := blk_far (p := ⟨mb, 2, none⟩) e6 (blk_ne e6 hM.blk (by decide)) (.int .i64 (wrap64 (M.steps + 1)))
      have hB := hB.setC (p := ⟨mb, 2, none⟩) (Or.inr ⟨hM.le, Or.inl rfl⟩) (.int .i64 (wrap64 (M.steps + 1)))
      have hM := hM.setM (wrap64 (M.steps + 1))
      clear TA z60 y10
      generalize w3.setCell ⟨mb, 2, none⟩ (.int .i64 (wrap64 (M.steps + 1))) = w4 at *
      have TD := hdo w4 col cv _ _ _ G4 _ hM hT (Nat.le_trans hM.le (Nat.le_of_lt (blk_lt hM.blk))) e4
      rw [← hx.out] at TD
      simp only at TD
      have z60 := (blk_cell e6 0).trans rfl
      have z61 := (blk_cell e6 1).trans rfl
      have z62 := (blk_cell e6 2).trans rfl
      have z63 := (blk_cell e6 3).trans rfl
      have z64 := (blk_cell e6 4).trans rfl
      have z65 := (blk_cell e6 5).trans rfl
      have z66 := (blk_cell e6 6).trans rfl
      have z67 := (blk_cell e6 7).trans rfl
      have hb4 : base ≤ w4.heap.size := Nat.le_trans hM.le (Nat.le_of_lt (blk_lt hM.blk))
      go_upto_region 14 with (first
        | (go_at_call 31; refine TD.mono ?_; rintro e w5 ⟨rfl, hb5, e45, col5, cv5, hc5, hM5⟩)
        | go_in)
      have e7 := heap_alloc_new w5 (Obj.cells #[.int .i64 0, .int .i64 kind, .int .i64 place, .bool hit] 40 (0, 0))
      have hbl : Below w5.heap.size w5 (w5.alloc (Obj.cells #[.int .i64 0, .int .i64 kind, .int .i64 place, .bool hit] 40 (0, 0))) := below_alloc (Below.refl _ _) _
      have hn7 : w.heap.size ≤ w5.heap.size := Nat.le_trans hB.size hb5.size
      have hc5 : ∀ q, q < w.heap.size → col5 q = col q := fun q hq => hc5 q (Nat.lt_of_lt_of_le hq hB.size)
      have hb55 : base ≤ w5.heap.size := Nat.le_trans hM5.le (Nat.le_of_lt (blk_lt hM5.blk))
      have n47 : G4 ≠ w5.heap.size := Nat.ne_of_lt (blk_lt e45)
      have e4 := blk_below e45 hbl
      have hM := hM5.below hbl
      have hB := (hB.trans hb5).bel hbl
      clear hbl hb5 e45 hM5 TD z60 z61 z62 z63 z64 z65 z66 z67 e6 hT
      generalize w5.alloc (Obj.cells #[.int .i64 0, .int .i64 kind, .int .i64 place, .bool hit] 40 (0, 0)) = w6 at *
      generalize w5.heap.size = G7 at *
      have x70 := (blk_cell e7 0).trans rfl
      have f70 := blk_frozen e7 0
      go_upto_region 15 with go_in
      have hM := hM.other e7 0 (.int .i64 (k : Int))
      have e4 := blk_far (p := ⟨G7, 0, none⟩) e4 n47 (.int .i64 (k : Int))
      have hB := hB.setC (p := ⟨G7, 0, none⟩) (Or.inl hn7) (.int .i64 (k : Int))
      have e7 := blk_put (cs' := eArr k kind place hit) e7 0 (.int .i64 (k : Int)) rfl
      clear x70 f70
      generalize w6.setCell ⟨G7, 0, none⟩ (.int .i64 (k : Int)) = w7 at *
      have x70 := (blk_cell e7 0).trans rfl
      have x71 := (blk_cell e7 1).trans rfl
      have x72 := (blk_cell e7 2).trans rfl
      have x73 := (blk_cell e7 3).trans rfl
      have x40 := (blk_cell e4 0).trans rfl
      have x41 := (blk_cell e4 1).trans rfl
      have x42 := (blk_cell e4 2).trans rfl
      have x43 := (blk_cell e4 3).trans rfl
      have f4 := blk_frozen e4
      go_wp2
      refine bodyPost_ret (results_c rfl _ _ G4 40 (eArr k kind place hit) (0, 0) _ rfl (put_ev e4) Try.underlying40 rfl (by kernel_rfl)) rfl ?_
      exact ⟨rfl, hB.ev hn4, _, _, hc5, hM.event e4⟩
    · by_cases h11 : o = 11
      · subst h11
        have hwi : ¬ (wr.length : Int) > 0 := by have := hgo (by decide); omega
        go_upto_region 12 with go_in
        have TA := add.calls mb cv pv M.steps w3 hM.blk
        go_upto_region 13 with (first
          | (go_at_call 30; refine TA.mono ?_; rintro e w4 ⟨rfl, rfl⟩)
          | go_in)
        have hT := hT.setM hM (.int .i64 (wrap64 (M.steps + 1)))
        have e4 := blk_far (p := ⟨mb, 2, none⟩) e4 (blk_ne e4 hM.blk (by decide)) (.int .i64 (wrap64 (M.steps + 1)))
        have e6 := blk_far (p := ⟨mb, 2, none⟩) e6 (blk_ne e6 hM.blk (by decide)) (.int .i64 (wrap64 (M.steps + 1)))
        have hB := hB.setC (p := ⟨mb, 2, none⟩) (Or.inr ⟨hM.le, Or.inl rfl⟩) (.int .i64 (wrap64 (M.steps + 1)))
        have hM := hM.setM (wrap64 (M.steps + 1))
        clear TA z60 y10
        generalize w3.setCell ⟨mb, 2, none⟩ (.int .i64 (wrap64 (M.steps + 1))) = w4 at *
        have TD := hdo w4 col cv _ _ _ G4 _ hM hT (Nat.le_trans hM.le (Nat.le_of_lt (blk_lt hM.blk))) e4
        rw [← hx.out] at TD
        simp only at TD
        have z60 := (blk_cell e6 0).trans rfl
        have z61 := (blk_cell e6 1).trans rfl
        have z62 := (blk_cell e6 2).trans rfl
        have z63 := (blk_cell e6 3).trans rfl
        have z64 := (blk_cell e6 4).trans rfl
        have z65 := (blk_cell e6 5).trans rfl
        have z66 := (blk_cell e6 6).trans rfl
        have z67 := (blk_cell e6 7).trans rfl
        have hb4 : base ≤ w4.heap.size := Nat.le_trans hM.le (Nat.le_of_lt (blk_lt hM.blk))
        go_upto_region 14 with (first
          | (go_at_call 31; refine TD.mono ?_; rintro e w5 ⟨rfl, hb5, e45, col5, cv5, hc5, hM5⟩)
          | go_in)
        have e7 := heap_alloc_new w5 (Obj.cells #[.int .i64 0, .int .i64 kind, .int .i64 place, .bool hit] 40 (0, 0))
        have hbl : Below w5.heap.size w5 (w5.alloc (Obj.cells #[.int .i64 0, .int .i64 kind, .int .i64 place, .bool hit] 40 (0, 0))) := below_alloc (Below.refl _ _) _
        have hn7 : w.heap.size ≤ w5.heap.size := Nat.le_trans hB.size hb5.size
        have hc5 : ∀ q, q < w.heap.size → col5 q = col q := fun q hq => hc5 q (Nat.lt_of_lt_of_le hq hB.size)
        have hb55 : base ≤ w5.heap.size := Nat.le_trans hM5.le (Nat.le_of_lt (blk_lt hM5.blk))
        have n47 : G4 ≠ w5.heap.size := Nat.ne_of_lt (blk_lt e45)
        have e4 := blk_below e45 hbl
        have hM := hM5.below hbl
        have hB := (hB.trans hb5).bel hbl
        clear hbl hb5 e45 hM5 TD z60 z61 z62 z63 z64 z65 z66 z67 e6 hT
        generalize w5.alloc (Obj.cells #[.int .i64 0, .int .i64 kind, .int .i64 place, .bool hit] 40 (0, 0)) = w6 at *
        generalize w5.heap.size = G7 at *
        have x70 := (blk_cell e7 0).trans rfl
        have f70 := blk_frozen e7 0
        go_upto_region 15 with go_in
        have hM := hM.other e7 0 (.int .i64 (k : Int))
        have e4 := blk_far (p := ⟨G7, 0, none⟩) e4 n47 (.int .i64 (k : Int))
        have hB := hB.setC (p := ⟨G7, 0, none⟩) (Or.inl hn7) (.int .i64 (k : Int))
        have e7 := blk_put (cs' := eArr k kind place hit) e7 0 (.int .i64 (k : Int)) rfl
        clear x70 f70
        generalize w6.setCell ⟨G7, 0, none⟩ (.int .i64 (k : Int)) = w7 at *
        have x70 := (blk_cell e7 0).trans rfl
        have x71 := (blk_cell e7 1).trans rfl
        have x72 := (blk_cell e7 2).trans rfl
        have x73 := (blk_cell e7 3).trans rfl
        have x40 := (blk_cell e4 0).trans rfl
        have x41 := (blk_cell e4 1).trans rfl
        have x42 := (blk_cell e4 2).trans rfl
        have x43 := (blk_cell e4 3).trans rfl
        have f4 := blk_frozen e4
        go_wp2
        refine bodyPost_ret (results_c rfl _ _ G4 40 (eArr k kind place hit) (0, 0) _ rfl (put_ev e4) Try.underlying40 rfl (by kernel_rfl)) rfl ?_
        exact ⟨rfl, hB.ev hn4, _, _, hc5, hM.event e4⟩
      · by_cases h13 : o = 13
        · subst h13
          have hwi : ¬ (wr.length : Int) > 0 := by have := hgo (by decide); omega
          go_upto_region 12 with go_in
          have TA := add.calls mb cv pv M.steps w3 hM.blk
          go_upto_region 13 with (first
            | (go_at_call 30; refine TA.mono ?_; rintro e w4 ⟨rfl, rfl⟩)
            | go_in)
          have hT := hT.setM hM (.int .i64 (wrap64 (M.steps + 1)))
          have e4 := blk_far (p := ⟨mb, 2, none⟩) e4 (blk_ne e4 hM.blk (by decide)) (.int .i64 (wrap64 (M.steps + 1)))
          have e6 := blk_far (p := ⟨mb, 2, none⟩) e6 (blk_ne e6 hM.blk (by decide)) (.int .i64 (wrap64 (M.steps + 1)))
          have hB := hB.setC (p := ⟨mb, 2, none⟩) (Or.inr ⟨hM.le, Or.inl rfl⟩) (.int .i64 (wrap64 (M.steps + 1)))
          have hM := hM.setM (wrap64 (M.steps + 1))
          clear TA z60 y10
          generalize w3.setCell ⟨mb, 2, none⟩ (.int .i64 (wrap64 (M.steps + 1))) = w4 at *
          have TD := hdo w4 col cv _ _ _ G4 _ hM hT (Nat.le_trans hM.le (Nat.le_of_lt (blk_lt hM.blk))) e4
          rw [← hx.out] at TD
          simp only at TD
          have z60 := (blk_cell e6 0).trans rfl
          have z61 := (blk_cell e6 1).trans rfl
          have z62 := (blk_cell e6 2).trans rfl
          have z63 := (blk_cell e6 3).trans rfl
          have z64 := (blk_cell e6 4).trans rfl
          have z65 := (blk_cell e6 5).trans rfl
          have z66 := (blk_cell e6 6).trans rfl
          have z67 := (blk_cell e6 7).trans rfl
          have hb4 : base ≤ w4.heap.size := Nat.le_trans hM.le (Nat.le_of_lt (blk_lt hM.blk))
          go_upto_region 14 with (first
            | (go_at_call 31; refine TD.mono ?_; rintro e w5 ⟨rfl, hb5, e45, col5, cv5, hc5, hM5⟩)
            | go_in)
          have e7 := heap_alloc_new w5 (Obj.cells #[.int .i64 0, .int .i64 kind, .int .i64 place, .bool hit] 40 (0, 0))
          have hbl : Below w5.heap.size w5 (w5.alloc (Obj.cells #[.int .i64 0, .int .i64 kind, .int .i64 place, .bool hit] 40 (0, 0))) := below_alloc (Below.refl _ _) _
          have hn7 : w.heap.size ≤ w5.heap.size := Nat.le_trans hB.size hb5.size
          have hc5 : ∀ q, q < w.heap.size → col5 q = col q := fun q hq => hc5 q (Nat.lt_of_lt_of_le hq hB.size)
          have hb55 : base ≤ w5.heap.size := Nat.le_trans hM5.le (Nat.le_of_lt (blk_lt hM5.blk))
          have n47 : G4 ≠ w5.heap.size := Nat.ne_of_lt (blk_lt e45)
          have e4 := blk_below e45 hbl
          have hM := hM5.below hbl
          have hB := (hB.trans hb5).bel hbl
          clear hbl hb5 e45 hM5 TD z60 z61 z62 z63 z64 z65 z66 z67 e6 hT
          generalize w5.alloc (Obj.cells #[.int .i64 0, .int .i64 kind, .int .i64 place, .bool hit] 40 (0, 0)) = w6 at *
          generalize w5.heap.size = G7 at *
          have x70 := (blk_cell e7 0).trans rfl
          have f70 := blk_frozen e7 0
          go_upto_region 15 with go_in
          have hM := hM.other e7 0 (.int .i64 (k : Int))
          have e4 := blk_far (p := ⟨G7, 0, none⟩) e4 n47 (.int .i64 (k : Int))
          have hB := hB.setC (p := ⟨G7, 0, none⟩) (Or.inl hn7) (.int .i64 (k : Int))
          have e7 := blk_put (cs' := eArr k kind place hit) e7 0 (.int .i64 (k : Int)) rfl
          clear x70 f70
          generalize w6.setCell ⟨G7, 0, none⟩ (.int .i64 (k : Int)) = w7 at *
          have x70 := (blk_cell e7 0).trans rfl
          have x71 := (blk_cell e7 1).trans rfl
          have x72 := (blk_cell e7 2).trans rfl
          have x73 := (blk_cell e7 3).trans rfl
          have x40 := (blk_cell e4 0).trans rfl
          have x41 := (blk_cell e4 1).trans rfl
          have x42 := (blk_cell e4 2).trans rfl
          have x43 := (blk_cell e4 3).trans rfl
          have f4 := blk_frozen e4
          go_wp2
          refine bodyPost_ret (results_c rfl _ _ G4 40 (eArr k kind place hit) (0, 0) _ rfl (put_ev e4) Try.underlying40 rfl (by kernel_rfl)) rfl ?_
          exact ⟨rfl, hB.ev hn4, _, _, hc5, hM.event e4⟩
        · have c8 : (o == 8) = false := beq_eq_false_iff_ne.mpr h8
          have c10 : (o == 10) = false := beq_eq_false_iff_ne.mpr h10
          have c11 : (o == 11) = false := beq_eq_false_iff_ne.mpr h11
          have c13 : (o == 13) = false := beq_eq_false_iff_ne.mpr h13
          go_upto_region 12 with go_in
          have TA := add.calls mb cv pv M.steps w3 hM.blk
          go_upto_region 13 with (first
            | (go_at_call 30; refine TA.mono ?_; rintro e w4 ⟨rfl, rfl⟩)
            | go_in)
          have hT := hT.setM hM (.int .i64 (wrap64 (M.steps + 1)))
          have e4 := blk_far (p := ⟨mb, 2, none⟩) e4 (blk_ne e4 hM.blk (by decide)) (.int .i64 (wrap64 (M.steps + 1)))
          have e6 := blk_far (p := ⟨mb, 2, none⟩) e6 (blk_ne e6 hM.blk (by decide)) (.int .i64 (wrap64 (M.steps + 1)))
          have hB := hB.setC (p := ⟨mb, 2, none⟩) (Or.inr ⟨hM.le, Or.inl rfl⟩) (.int .i64 (wrap64 (M.steps + 1)))
          have hM := hM.setM (wrap64 (M.steps + 1))
          clear TA z60 y10
          generalize w3.setCell ⟨mb, 2, none⟩ (.int .i64 (wrap64 (M.steps + 1))) = w4 at *
          have TD := hdo w4 col cv _ _ _ G4 _ hM hT (Nat.le_trans hM.le (Nat.le_of_lt (blk_lt hM.blk))) e4
          rw [← hx.out] at TD
          simp only at TD
          have z60 := (blk_cell e6 0).trans rfl
          have z61 := (blk_cell e6 1).trans rfl
          have z62 := (blk_cell e6 2).trans rfl
          have z63 := (blk_cell e6 3).trans rfl
          have z64 := (blk_cell e6 4).trans rfl
          have z65 := (blk_cell e6 5).trans rfl
          have z66 := (blk_cell e6 6).trans rfl
          have z67 := (blk_cell e6 7).trans rfl
          have hb4 : base ≤ w4.heap.size := Nat.le_trans hM.le (Nat.le_of_lt (blk_lt hM.blk))
          go_upto_region 14 with (first
            | (go_at_call 31; refine TD.mono ?_; rintro e w5 ⟨rfl, hb5, e45, col5, cv5, hc5, hM5⟩)
            | go_in)
          have e7 := heap_alloc_new w5 (Obj.cells #[.int .i64 0, .int .i64 kind, .int .i64 place, .bool hit] 40 (0, 0))
          have hbl : Below w5.heap.size w5 (w5.alloc (Obj.cells #[.int .i64 0, .int .i64 kind, .int .i64 place, .bool hit] 40 (0, 0))) := below_alloc (Below.refl _ _) _
          have hn7 : w.heap.size ≤ w5.heap.size := Nat.le_trans hB.size hb5.size
          have hc5 : ∀ q, q < w.heap.size → col5 q = col q := fun q hq => hc5 q (Nat.lt_of_lt_of_le hq hB.size)
          have hb55 : base ≤ w5.heap.size := Nat.le_trans hM5.le (Nat.le_of_lt (blk_lt hM5.blk))
          have n47 : G4 ≠ w5.heap.size := Nat.ne_of_lt (blk_lt e45)
          have e4 := blk_below e45 hbl
          have hM := hM5.below hbl
          have hB := (hB.trans hb5).bel hbl
          clear hbl hb5 e45 hM5 TD z60 z61 z62 z63 z64 z65 z66 z67 e6 hT
          generalize w5.alloc (Obj.cells #[.int .i64 0, .int .i64 kind, .int .i64 place, .bool hit] 40 (0, 0)) = w6 at *
          generalize w5.heap.size = G7 at *
          have x70 := (blk_cell e7 0).trans rfl
          have f70 := blk_frozen e7 0
          go_upto_region 15 with go_in
          have hM := hM.other e7 0 (.int .i64 (k : Int))
          have e4 := blk_far (p := ⟨G7, 0, none⟩) e4 n47 (.int .i64 (k : Int))
          have hB := hB.setC (p := ⟨G7, 0, none⟩) (Or.inl hn7) (.int .i64 (k : Int))
          have e7 := blk_put (cs' := eArr k kind place hit) e7 0 (.int .i64 (k : Int)) rfl
          clear x70 f70
          generalize w6.setCell ⟨G7, 0, none⟩ (.int .i64 (k : Int)) = w7 at *
          have x70 := (blk_cell e7 0).trans rfl
          have x71 := (blk_cell e7 1).trans rfl
          have x72 := (blk_cell e7 2).trans rfl
          have x73 := (blk_cell e7 3).trans rfl
          have x40 := (blk_cell e4 0).trans rfl
          have x41 := (blk_cell e4 1).trans rfl
          have x42 := (blk_cell e4 2).trans rfl
          have x43 := (blk_cell e4 3).trans rfl
          have f4 := blk_frozen e4
          go_wp2
          refine bodyPost_ret (results_c rfl _ _ G4 40 (eArr k kind place hit) (0, 0) _ rfl (put_ev e4) Try.underlying40 rfl (by kernel_rfl)) rfl ?_
          exact ⟨rfl, hB.ev hn4, _, _, hc5, hM.event e4⟩
end Go.Proofs.Ytaenjbhhpdmhgaa.Tso
