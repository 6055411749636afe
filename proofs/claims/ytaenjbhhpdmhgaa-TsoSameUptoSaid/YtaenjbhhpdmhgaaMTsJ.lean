/-
A machine made: tso.Of. Conditions: as each theorem states them.
-/
import Derived.Test.YtaenjbhhpdmhgaaMTsI
set_option linter.unusedVariables false
set_option linter.unusedSimpArgs false
namespace Go.Proofs.Ytaenjbhhpdmhgaa.Tso
open Go.RowKit Go.Proofs.YtaenjbhhpdmhgaaW.PrintWords Go.Proofs.YtaenjbhhpdmhgaaW.PrintLast Go.Proofs.YtaenjbhhpdmhgaaW.PrintMore
open Go.Proofs.Ytaenjbhhpdmhgaa.Kit
open Go.Proofs.Ytaenjbhhpdmhgaa.PTsoScript
def of11.T4 : Bool × List (List Nat × List Nat) := (true, [([], []), ([0], [0]), ([1], [1]), ([2], [2]), ([], []), ([4], [4]), ([3, 5], [3, 5]), ([], []), ([6, 7], [6, 7])])
def of11.B4 : List Nat := [0, 1, 3, 7, 0, 16, 63, 0, 255]
theorem of11.tab4 : rtab .any (opsOf Try.f11 4) = of11.T4 := by kernel_rfl
theorem of11.bits4 : waitsOk of11.T4.2 of11.B4 = true := by kernel_rfl
def of11.T8 : Bool × List (List Nat × List Nat) := (true, [([], []), ([], []), ([1], [1]), ([2], [2]), ([3], [3]), ([], []), ([5], [5]), ([6], [6]), ([7], [7]), ([8], [8]), ([4, 9, 6], [4, 9]), ([0, 0, 1, 2, 3, 4, 5, 6, 7, 8, 9, 10], [0]), ([11, 0, 1, 2, 3, 4, 5, 6, 7, 8, 9, 10], [11]), ([12, 10, 10, 0, 1, 2, 3, 4, 5, 6, 7, 8, 9, 10], [10, 12])])
def of11.B8 : List Nat := [0, 0, 2, 6, 14, 0, 32, 96, 224, 480, 1022, 2047, 4095, 8191]
theorem of11.tab8 : rtab .any (opsOf Try.f11 8) = of11.T8 := by kernel_rfl
theorem of11.bits8 : waitsOk of11.T8.2 of11.B8 = true := by kernel_rfl

set_option maxHeartbeats 8000000 in
set_option maxRecDepth 100000 in
theorem of.calls (s c : Nat) (L : List (List S28)) (V : Option Addr) (cv : Nat) (A : Option Addr) (cA : Nat) (xs : List Int) (w : World) (hC : Kd.C (Kd.slice 28 k28) w V L.length L) (hcv : L.length ≤ cv) (hlen : ∀ t ∈ L, t.length ≤ 9223372036854775807) (him : Pure.imS s c L) (hX : Kd.C kU w A xs.length xs) :
    Calls Try.prog 11 #[.agg #[.int .i64 s, .int .i64 c, .slice V L.length cv], .slice A xs.length cA] w fun e w' => ∃ (mb : Nat) (ts : List Nat) (cv pv : Value), e = .returned (.tuple #[.pointer (some ⟨mb, 0, none⟩), .bool true]) ∧ Mach w' w.heap.size mb (fun _ => 0) ts cv pv ⟨firstS s c xs, L.map initThr, 0⟩ ∧ Below w.heap.size w w' := by
  obtain ⟨km, hkm⟩ : ∃ k, image_May.f k s c L = some (decide (Pure.imS s c L)) := Ev.rounds (Pure.imay_ev s c L hlen)
  rw [decide_eq_true him] at hkm
  have hsc : s ≤ c := by have := him.2.1; omega
  have hc1 : c ≤ 1048576 := by have := him.2.2.1; omega
  have hL16 : L.length ≤ 16 := him.2.2.2.1
  replace hlen := Aside0.mk hlen
  replace him := Aside0.mk him
  have hbl : Below w.heap.size w (w.alloc (Obj.cells #[.int .i64 s, .int .i64 c, .slice V L.length cv] 36 (0, 0))) := below_alloc (Below.refl _ _) _
  have e2 := heap_alloc_new w (Obj.cells #[.int .i64 s, .int .i64 c, .slice V L.length cv] 36 (0, 0))
  go_enter Try.func11, Try.ntmps11
  go_upto_region 1 with go_in
  have hC1 := Kd.C_below hC hbl
  have hB := hbl
  clear hbl
  generalize w.alloc (Obj.cells #[.int .i64 s, .int .i64 c, .slice V L.length cv] 36 (0, 0)) = w1 at *
  have hG2 : w.heap.size ≤ w.heap.size := Nat.le_refl _
  generalize hG : w.heap.size = G2 at e2 ⊢
  have x0 := (blk_cell e2 0).trans rfl
  have x1 := (blk_cell e2 1).trans rfl
  have x2 := (blk_cell e2 2).trans rfl
  have TM := image_May.calls km s c V cv L true w1 hC1 hcv hkm
  go_upto_region 3 with (first | (go_at_call 21; refine TM.mono ?_; rintro e w2 ⟨rfl, h2⟩) | go_in)
  clear TM x0 x1 x2
  replace hB := hB.trans (h2.mono (hG ▸ hB.size))
  have e2 := blk_below e2 h2
  clear hC1 h2 hkm
  have x0 : w2.cell? ⟨G2, 0, none⟩ = some (.int .i64 s) := (blk_cell e2 0).trans rfl
  have x1 : w2.cell? ⟨G2, 1, none⟩ = some (.int .i64 c) := (blk_cell e2 1).trans rfl
  have x2 : w2.cell? ⟨G2, 2, none⟩ = some (.slice V L.length cv) := (blk_cell e2 2).trans rfl
  go_upto_region 4 with (first | ((with_reducible refine gate_dst (N := 14) rfl ?_); refine Kd.R_make (w0 := w) kU w.heap.size 26 rfl (N := 14) rfl 42 _ _ rfl (c : Int) (by first | rfl | (go_simp; done)) (by first | rfl | (go_simp; done)) Try.underlying42 (.int .u64 0) 8 infoU rfl (by decide) (by omega) 0 (ok := fun _ => True) (okp := fun _ => True) rfl (fun _ hk => hk) trivial (by omega) (by omega) hB hB.size ?_; intro v2 w3 ho3 hb3 hg3 hn3; rw [Int.toNat_natCast] at ho3; obtain ⟨g, cg, rfl, hgb, hgl, hcg, cells3, hgh⟩ := R_form2 ho3 hn3; rw [List.length_replicate] at ho3 hcg; have e3 : w3.heap[G2]? = some (Obj.cells #[.int .i64 s, .int .i64 c, .slice V L.length cv] 36 (0, 0)) := blk_grown e2 hg3 (by simp)) | go_in)
  have e4 := heap_alloc_new w3 (Obj.cells #[.slice (some ⟨g, 0, none⟩) c cg, .slice none 0 0, .int .i64 0] 71 (0, 0))
  have hb4 : Below w3.heap.size w3 (w3.alloc (Obj.cells #[.slice (some ⟨g, 0, none⟩) c cg, .slice none 0 0, .int .i64 0] 71 (0, 0))) := below_alloc (Below.refl _ _) _
  generalize w3.alloc (Obj.cells #[.slice (some ⟨g, 0, none⟩) c cg, .slice none 0 0, .int .i64 0] 71 (0, 0)) = w4 at e4 hb4 ⊢
  have ho4 := Kd.R_below ho3 hb4
  have e24 := blk_below e3 hb4
  have HB4 := hb3.trans (hb4.mono hb3.size)
  have hmb : w.heap.size ≤ w3.heap.size := hb3.size
  generalize w3.heap.size = mb at e4 hb4 hmb ⊢
  clear ho3 e3 hb3 hb4 hg3 hn3 hgh hgl cells3 e2 x0 x1 x2
  have hX4 := Kd.C_below hX HB4
  have x0 : w4.cell? ⟨G2, 0, none⟩ = some (.int .i64 s) := (blk_cell e24 0).trans rfl
  have x2 : w4.cell? ⟨G2, 2, none⟩ = some (.slice V L.length cv) := (blk_cell e24 2).trans rfl
  have y0 : w4.cell? ⟨mb, 0, none⟩ = some (.slice (some ⟨g, 0, none⟩) c cg) := (blk_cell e4 0).trans rfl
  have hscg : s ≤ cg := by omega
  have l4 := blk_lt e4
  have l2 := blk_lt e24
  refine start_ (n := 9) (S := fun w' => Below w4.heap.size w4 w') (ds := [8]) #[false, false, false, false, false, false, false, false, false] (by kernel_rfl) rfl rfl (below_drew (Below.refl _ _)) (fun hHeld => ?_); refine with_tabW of11.tab4 of11.bits4 (fun HT_ HW_ => ?_)
  refine pure_ (i := 0) (N := some 17) (v := ?_) (a' := ?_) #[true, false, false, false, false, false, false, false, false] rfl rfl (any_of HT_.out (by kernel_rfl)) (fun _ _ _ h => h) (Or.inl ⟨by first | rfl | kernel_rfl, ?_⟩) ?_ ?_
  rotate_left
  · intro w'
    go_simp
    with_reducible rfl
  rotate_left
  · simp only [Act.put, List.setIfInBounds_toArray, List.set_cons_zero, List.set_cons_succ, i64_w, i32_w]
    rfl
  refine pure_ (i := 1) (N := some 18) (v := ?_) (a' := ?_) #[true, true, false, false, false, false, false, false, false] rfl rfl (any_of HT_.out (by kernel_rfl)) (fun _ _ _ h => h) (Or.inl ⟨by first | rfl | kernel_rfl, ?_⟩) ?_ ?_
  rotate_left
  · intro w'
    go_simp
    with_reducible rfl
  rotate_left
  · simp only [Act.put, List.setIfInBounds_toArray, List.set_cons_zero, List.set_cons_succ, i64_w, i32_w]
    rfl
  refine pure_ (i := 2) (N := some 19) (v := ?_) (a' := ?_) #[true, true, true, false, false, false, false, false, false] rfl rfl (any_of HT_.out (by kernel_rfl)) (fun _ _ _ h => h) (Or.inl ⟨by first | rfl | kernel_rfl, ?_⟩) ?_ ?_
  rotate_left
  · intro w'
    go_simp
    with_reducible rfl
  rotate_left
  · simp only [Act.put, List.setIfInBounds_toArray, List.set_cons_zero, List.set_cons_succ, i64_w, i32_w]
    rfl
  refine take_ (i := 3) (N := some 20) (v := ?_) (a' := ?_) #[true, true, true, true, false, false, false, false, false] rfl rfl (take_ofW HT_.out HW_.out (by kernel_rfl)) (fun _ _ _ h => h) (Or.inl ⟨by first | rfl | kernel_rfl, ?_⟩) hHeld ?_ ?_
  rotate_left
  · intro w' s0
    have zc := (s0.cell (by exact l4)).trans y0
    go_simp
    with_reducible rfl
  rotate_left
  · simp only [Act.put, List.setIfInBounds_toArray, List.set_cons_zero, List.set_cons_succ, i64_w, i32_w]
    rfl
  refine pure_ (i := 4) (N := some 21) (v := ?_) (a' := ?_) #[true, true, true, true, true, false, false, false, false] rfl rfl (any_of HT_.out (by kernel_rfl)) (fun _ _ _ h => h) (Or.inl ⟨by first | rfl | kernel_rfl, ?_⟩) ?_ ?_
  rotate_left
  · intro w'
    go_simp
    with_reducible rfl
  rotate_left
  · simp only [Act.put, List.setIfInBounds_toArray, List.set_cons_zero, List.set_cons_succ, i64_w, i32_w]
    rfl
  refine take_ (i := 5) (N := some 22) (v := ?_) (a' := ?_) #[true, true, true, true, true, true, false, false, false] rfl rfl (take_ofW HT_.out HW_.out (by kernel_rfl)) (fun _ _ _ h => h) (Or.inl ⟨by first | rfl | kernel_rfl, ?_⟩) hHeld ?_ ?_
  rotate_left
  · intro w' s0
    have zc := (s0.cell (by exact l2)).trans x0
    go_simp
    with_reducible rfl
  rotate_left
  · simp only [Act.put, List.setIfInBounds_toArray, List.set_cons_zero, List.set_cons_succ, i64_w, i32_w]
    rfl
  refine pure_ (i := 6) (N := some 23) (v := ?_) (a' := ?_) #[true, true, true, true, true, true, true, false, false] rfl rfl (any_of HT_.out (by kernel_rfl)) (fun _ _ _ h => h) (Or.inl ⟨by first | rfl | kernel_rfl, ?_⟩) ?_ ?_
  rotate_left
  · intro w'
    go_simp
    try rw [if_pos hscg]
    with_reducible rfl
  rotate_left
  · simp only [Act.put, List.setIfInBounds_toArray, List.set_cons_zero, List.set_cons_succ, i64_w, i32_w]
    rfl
  refine pure_ (i := 7) (N := some 24) (v := ?_) (a' := ?_) #[true, true, true, true, true, true, true, true, false] rfl rfl (any_of HT_.out (by kernel_rfl)) (fun _ _ _ h => h) (Or.inl ⟨by first | rfl | kernel_rfl, ?_⟩) ?_ ?_
  rotate_left
  · intro w'
    go_simp
    with_reducible rfl
  rotate_left
  · simp only [Act.put, List.setIfInBounds_toArray, List.set_cons_zero, List.set_cons_succ, i64_w, i32_w]
    rfl
  refine last_ (i := 8) (N := some 25) #[true, true, true, true, true, true, true, true, true] rfl rfl (one_of HT_.out (by kernel_rfl)) (by decide) (fun K hK => ?_)
  obtain ⟨w5, hr5, hR5, hg5⟩ := run_copy_full (P := Try.prog) w.heap.size g 42 42 3 26 Try.underlying42 infoN (List.replicate c 0) xs s c cg cg xs.length cA A (fun _ => True) (by simp; omega) (Kd.R_below ho4 hHeld) (Kd.C_below hX4 hHeld)
  refine copy_ (by first | rfl | kernel_rfl) rfl (.tmp 23) (.tmp 24) 42 42 rfl rfl rfl hr5 ?_
  refine hK.out _ _ ?_
  clear hK K
  refine norm_ (a' := ?_) ?_ ?_
  rotate_left
  · show Act.put _ (some 25) _ = _
    simp only [Act.put, List.setIfInBounds_toArray, List.set_cons_zero, List.set_cons_succ, i64_w, i32_w]
    rfl
  refine done_ (done_of HT_.out (by kernel_rfl)) ?_
  clear HT_ HW_
  obtain ⟨cg0, hcg0⟩ := Kd.R_typed ho4 g rfl
  have ng : mb ≠ g := blk_ne e4 hcg0 (by decide)
  have ng2 : G2 ≠ g := blk_ne e24 hcg0 (by decide)
  have hM : Mach w5 w.heap.size mb (fun _ => 0) [] (.slice (some ⟨g, 0, none⟩) c cg) (.slice none 0 0) ⟨firstS s c xs, [], 0⟩ :=
    ⟨blk_grown (blk_below e4 hHeld) hg5 (fun e => ng (Option.some.inj e)), Kd.R_nil _ _ _ _ _, Kd.R_mono hR5 (fun _ _ => rfl), rfl, fun k b t h1 _ => by simp at h1, List.nodup_nil, hmb⟩
  have HB : Below w.heap.size w w5 := (HB4.trans (hHeld.mono HB4.size)).grown hg5 (Nat.le_trans HB4.size hHeld.size) (fun k hk => by have := Option.some.inj hk; omega)
  have e25 := blk_grown (blk_below e24 hHeld) hg5 (fun e => ng2 (Option.some.inj e))
  clear hg5 hR5 hr5 hHeld e4 e24 ho4 hX4 x0 x2 y0 l4 l2 hcg0 HB4 hB
  have x2 : w5.cell? ⟨G2, 2, none⟩ = some (.slice V L.length cv) := (blk_cell e25 2).trans rfl
  go_wp2
  go_loopw [29] (fun v29 wr' => ∃ (j : Nat) (ts : List Nat) (pv : Value), v29 = .int .i64 j ∧ j ≤ L.length ∧ Mach wr' w.heap.size mb (fun _ => 0) ts (.slice (some ⟨g, 0, none⟩) c cg) pv ⟨firstS s c xs, (L.take j).map initThr, 0⟩ ∧ Below w.heap.size w wr')
    (fun v29 _ => L.length - (intOf v29).toNat)
  case atStart => exact ⟨0, [], _, rfl, by omega, hM, HB⟩
  case round =>
    clear hM HB e25 x2
    obtain ⟨j, ts, pv, rfl, hjL, hM, HB⟩ := hrel
    by_cases hj : j < L.length
    · obtain ⟨ad, Ai, ci, eV, xz, hli, hCi⟩ := at_L3 hC (j : Int) (by omega) (by omega)
      subst eV
      rw [Pure.rdL_at L j hj] at xz hli hCi
      rw [Int.toNat_natCast] at xz
      have htk : (L.take (j + 1)).map initThr = (L.take j).map initThr ++ [initThr (L[j])] := by rw [List.take_add_one, List.getElem?_eq_getElem hj, List.map_append]; rfl
      have ht4 : (L[j]).length ≤ 4096 := (him.out.2.2.2.2 _ (List.getElem_mem hj)).1.2.1
      generalize L[j] = t at xz hli hCi htk ht4
      replace htk := Aside0.mk htk
      have X := (HB.cell (World.block_lt_of_cell? w _ xz)).trans xz
      have y1 : wr.cell? ⟨mb, 1, none⟩ = some pv := (blk_cell hM.blk 1).trans rfl
      have lm := blk_lt hM.blk
      have nm : some mb ≠ pv.ownBlock := by
        intro e
        obtain ⟨cs2, h2⟩ := Kd.R_typed hM.ptrs mb e.symm
        exact blk_ne hM.blk h2 (by decide) rfl
      have hts : ts.length ≤ 16 := by have := hM.len; simp only [List.length_map, List.length_take] at this; omega
      go_upto_region 8 with go_in
      refine start_ (n := 14) (S := fun w' => wr.grownBy w' pv.ownBlock) (ds := [13]) #[false, false, false, false, false, false, false, false, false, false, false, false, false, false] (by kernel_rfl) rfl rfl (drew_grown _ _) (fun hHeld => ?_); refine with_tabW of11.tab8 of11.bits8 (fun HT_ HW_ => ?_)
      refine pure_ (i := 0) (N := some 33) (v := ?_) (a' := ?_) #[true, false, false, false, false, false, false, false, false, false, false, false, false, false] rfl rfl (any_of HT_.out (by kernel_rfl)) (fun _ _ _ h => h) (Or.inl ⟨by first | rfl | kernel_rfl, ?_⟩) ?_ ?_
      rotate_left
      · intro w'
        go_simp
        with_reducible rfl
      rotate_left
      · simp only [Act.put, List.setIfInBounds_toArray, List.set_cons_zero, List.set_cons_succ, i64_w, i32_w]
        rfl
      refine pure_ (i := 1) (N := some 34) (v := ?_) (a' := ?_) #[true, true, false, false, false, false, false, false, false, false, false, false, false, false] rfl rfl (any_of HT_.out (by kernel_rfl)) (fun _ _ _ h => h) (Or.inl ⟨by first | rfl | kernel_rfl, ?_⟩) ?_ ?_
      rotate_left
      · intro w'
        go_simp
        with_reducible rfl
      rotate_left
      · simp only [Act.put, List.setIfInBounds_toArray, List.set_cons_zero, List.set_cons_succ, i64_w, i32_w]
        rfl
      refine pure_ (i := 2) (N := some 35) (v := ?_) (a' := ?_) #[true, true, true, false, false, false, false, false, false, false, false, false, false, false] rfl rfl (any_of HT_.out (by kernel_rfl)) (fun _ _ _ h => h) (Or.inl ⟨by first | rfl | kernel_rfl, ?_⟩) ?_ ?_
      rotate_left
      · intro w'
        go_simp
        with_reducible rfl
      rotate_left
      · simp only [Act.put, List.setIfInBounds_toArray, List.set_cons_zero, List.set_cons_succ, i64_w, i32_w]
        rfl
      refine pure_ (i := 3) (N := some 36) (v := ?_) (a' := ?_) #[true, true, true, true, false, false, false, false, false, false, false, false, false, false] rfl rfl (any_of HT_.out (by kernel_rfl)) (fun _ _ _ h => h) (Or.inl ⟨by first | rfl | kernel_rfl, ?_⟩) ?_ ?_
      rotate_left
      · intro w'
        go_simp
        with_reducible rfl
      rotate_left
      · simp only [Act.put, List.setIfInBounds_toArray, List.set_cons_zero, List.set_cons_succ, i64_w, i32_w]
        rfl
      refine take_ (i := 4) (N := some 37) (v := ?_) (a' := ?_) #[true, true, true, true, true, false, false, false, false, false, false, false, false, false] rfl rfl (take_ofW HT_.out HW_.out (by kernel_rfl)) (fun _ _ _ h => h) (Or.inl ⟨by first | rfl | kernel_rfl, ?_⟩) hHeld ?_ ?_
      rotate_left
      · intro w' s0
        have zc := (grown_cell s0 (by exact lm) (by exact nm)).trans y1
        go_simp
        with_reducible rfl
      rotate_left
      · simp only [Act.put, List.setIfInBounds_toArray, List.set_cons_zero, List.set_cons_succ, i64_w, i32_w]
        rfl
      refine pure_ (i := 5) (N := some 38) (v := ?_) (a' := ?_) #[true, true, true, true, true, true, false, false, false, false, false, false, false, false] rfl rfl (any_of HT_.out (by kernel_rfl)) (fun _ _ _ h => h) (Or.inl ⟨by first | rfl | kernel_rfl, ?_⟩) ?_ ?_
      rotate_left
      · intro w'
        go_simp
        with_reducible rfl
      rotate_left
      · simp only [Act.put, List.setIfInBounds_toArray, List.set_cons_zero, List.set_cons_succ, i64_w, i32_w]
        rfl
      refine one_ (i := 6) (N := some 39) #[true, true, true, true, true, true, true, false, false, false, false, false, false, false] rfl rfl (one_of HT_.out (by kernel_rfl)) (by decide) (fun K hK => ?_)
      refine Kd.R_append_rows_step k28 (w0 := w) w.heap.size (by first | rfl | kernel_rfl) (.const (.slice none 0 0)) (.tmp 38) 29 28 (.agg #[(.int .i64 0), (.int .i64 0), (.int .i64 0), (.int .i64 0), (.int .i64 0), (.int .i64 0), (.int .u64 0), (.int .i64 0)]) 64 rfl Try.underlying29 info28 rfl (by decide) (by omega) (.slice none 0 0) ([] : List S28) t Ai _ ci (fun _ => True) (fun _ => False) rfl rfl (Kd.R_nil _ _ _ _ _) (Kd.C_below hCi (below_drew HB)) (fun _ _ h => h) (fun _ h => h.elim) (fun _ _ => trivial) (below_drew HB) HB.size (by simp; omega) ?_
      intro v6 w6 hR6 _ hg6 _
      rw [List.nil_append] at hR6
      have hb6 : Below wr.heap.size wr w6 := (below_drew (Below.refl _ _)).grown hg6 (Nat.le_refl _) (fun k hk => by simp [Value.ownBlock] at hk)
      replace hHeld := World.grownBy.trans hHeld (grown_any (row := pv.ownBlock) hg6)
      obtain ⟨A6, c6, rfl⟩ := Kd.R_slice hR6
      refine hK.out _ _ hHeld (fun hHeld => ?_)
      clear hK K
      refine norm_ (a' := ?_) ?_ ?_
      rotate_left
      · show Act.put _ (some 39) _ = _
        simp only [Act.put, List.setIfInBounds_toArray, List.set_cons_zero, List.set_cons_succ, i64_w, i32_w]
        rfl
      refine pure_ (i := 7) (N := some 40) (v := ?_) (a' := ?_) #[true, true, true, true, true, true, true, true, false, false, false, false, false, false] rfl rfl (any_of HT_.out (by kernel_rfl)) (fun _ _ _ h => h) (Or.inl ⟨by first | rfl | kernel_rfl, ?_⟩) ?_ ?_
      rotate_left
      · intro w'
        go_simp
        with_reducible rfl
      rotate_left
      · simp only [Act.put, List.setIfInBounds_toArray, List.set_cons_zero, List.set_cons_succ, i64_w, i32_w]
        rfl
      refine one_ (i := 8) (N := some 41) #[true, true, true, true, true, true, true, true, true, false, false, false, false, false] rfl rfl (one_of HT_.out (by kernel_rfl)) (by decide) (fun K hK => ?_)
      obtain ⟨w8, hw8⟩ : ∃ w8, w8 = w6.alloc (Obj.cells #[.slice A6 t.length c6, .int .i64 0, .int .u64 0, .int .u64 0, .int .u64 0, .int .u64 0, .int .u64 0, .int .u64 0, .int .u64 0, .int .u64 0, .slice none 0 0, .slice none 0 0, .bool false] 77 (0, 0)) := ⟨_, rfl⟩
      obtain ⟨B8, hB8⟩ : ∃ B, B = w6.heap.size := ⟨_, rfl⟩
      have e8 : w8.heap[B8]? = some (Obj.cells #[.slice A6 t.length c6, .int .i64 0, .int .u64 0, .int .u64 0, .int .u64 0, .int .u64 0, .int .u64 0, .int .u64 0, .int .u64 0, .int .u64 0, .slice none 0 0, .slice none 0 0, .bool false] 77 (0, 0)) := by rw [hw8, hB8]; exact heap_alloc_new w6 _
      have hb68 : Below w6.heap.size w6 w8 := by rw [hw8]; exact below_alloc (Below.refl _ _) _
      replace hHeld : wr.grownBy w8 pv.ownBlock := by rw [hw8]; exact World.grownBy.trans hHeld (World.grownBy_alloc w6 _ _)
      refine val_ (w1 := w8) (v := .pointer (some ⟨B8, 0, none⟩)) (by first | rfl | kernel_rfl) rfl ?_ ?_
      · rw [hw8, hB8]
        go_simp
      refine hK.out _ _ hHeld (fun hHeld => ?_)
      clear hK K
      refine norm_ (a' := ?_) ?_ ?_
      rotate_left
      · show Act.put _ (some 41) _ = _
        simp only [Act.put, List.setIfInBounds_toArray, List.set_cons_zero, List.set_cons_succ, i64_w, i32_w]
        rfl
      refine one_ (i := 9) (N := some 42) #[true, true, true, true, true, true, true, true, true, true, false, false, false, false] rfl rfl (one_of HT_.out (by kernel_rfl)) (by decide) (fun K hK => ?_)
      obtain ⟨w9, hw9⟩ : ∃ w9, w9 = w8.alloc (Obj.cells #[.pointer (some ⟨B8, 0, none⟩)] 72 (0, 0)) := ⟨_, rfl⟩
      obtain ⟨B9, hB9⟩ : ∃ B, B = w8.heap.size := ⟨_, rfl⟩
      have e9 : w9.heap[B9]? = some (Obj.cells #[.pointer (some ⟨B8, 0, none⟩)] 72 (0, 0)) := by rw [hw9, hB9]; exact heap_alloc_new w8 _
      have hb89 : Below w8.heap.size w8 w9 := by rw [hw9]; exact below_alloc (Below.refl _ _) _
      replace hHeld : wr.grownBy w9 pv.ownBlock := by rw [hw9]; exact World.grownBy.trans hHeld (World.grownBy_alloc w8 _ _)
      refine val_ (w1 := w9) (v := .slice (some ⟨B9, 0, none⟩) 1 1) (by first | rfl | kernel_rfl) rfl ?_ ?_
      · rw [hw9, hB9]
        go_simp
      refine hK.out _ _ hHeld (fun hHeld => ?_)
      clear hK K
      refine norm_ (a' := ?_) ?_ ?_
      rotate_left
      · show Act.put _ (some 42) _ = _
        simp only [Act.put, List.setIfInBounds_toArray, List.set_cons_zero, List.set_cons_succ, i64_w, i32_w]
        rfl
      refine one_ (i := 10) (N := some 43) #[true, true, true, true, true, true, true, true, true, true, true, false, false, false] rfl rfl (one_of HT_.out (by kernel_rfl)) (by decide) (fun K hK => ?_)
      have hb8 := hb6.trans (hb68.mono hb6.size)
      have hb9 := hb8.trans (hb89.mono hb8.size)
      have hM9 := hM.below hb9
      have nm9 : some mb ≠ pv.ownBlock := nm
      refine pushP_ (by first | rfl | kernel_rfl) (.tmp 37) (.tmp 42) 64 72 (.pointer none) 8 rfl Try.underlying64 infoP rfl (by omega) pv w.heap.size B9 ts B8 (fun _ => True) rfl rfl e9 hM9.ptrs (Nat.le_trans HB.size hb9.size) (by omega) (fun _ _ => trivial) ?_
      intro v10 w10 hR10 hg10
      replace hHeld := World.grownBy.trans hHeld hg10
      obtain ⟨AP, cP, hvP⟩ := Kd.R_slice hR10
      generalize hnP : (ts ++ [B8]).length = nP at hvP
      subst hvP
      replace hnP := Aside0.mk hnP
      refine hK.out _ _ hHeld (fun hHeld => ?_)
      clear hK K
      refine norm_ (a' := ?_) ?_ ?_
      rotate_left
      · show Act.put _ (some 43) _ = _
        simp only [Act.put, List.setIfInBounds_toArray, List.set_cons_zero, List.set_cons_succ, i64_w, i32_w]
        rfl
      refine pure_ (i := 11) (N := some 44) (v := ?_) (a' := ?_) #[true, true, true, true, true, true, true, true, true, true, true, true, false, false] rfl rfl (any_of HT_.out (by kernel_rfl)) (fun _ _ _ h => h) (Or.inl ⟨by first | rfl | kernel_rfl, ?_⟩) ?_ ?_
      rotate_left
      · intro w'
        go_simp
        with_reducible rfl
      rotate_left
      · simp only [Act.put, List.setIfInBounds_toArray, List.set_cons_zero, List.set_cons_succ, i64_w, i32_w]
        rfl
      refine pure_ (i := 12) (N := some 45) (v := ?_) (a' := ?_) #[true, true, true, true, true, true, true, true, true, true, true, true, true, false] rfl rfl (any_of HT_.out (by kernel_rfl)) (fun _ _ _ h => h) (Or.inl ⟨by first | rfl | kernel_rfl, ?_⟩) ?_ ?_
      rotate_left
      · intro w'
        go_simp
        with_reducible rfl
      rotate_left
      · simp only [Act.put, List.setIfInBounds_toArray, List.set_cons_zero, List.set_cons_succ, i64_w, i32_w]
        rfl
      refine last_ (i := 13) (N := none) #[true, true, true, true, true, true, true, true, true, true, true, true, true, true] rfl rfl (one_of HT_.out (by kernel_rfl)) (by decide) (fun K hK => ?_)
      have hm10 := blk_grown hM9.blk hg10 nm9
      have z1 : w10.cell? ⟨mb, 1, none⟩ = some pv := (blk_cell hm10 1).trans rfl
      have f1 := blk_frozen hm10 1
      refine skip_ (w1 := World.setCell w10 ⟨mb, 1, none⟩ (.slice AP nP cP)) (by first | rfl | kernel_rfl) rfl ?_ ?_
      · go_simp
      refine hK.out _ _ ?_
      clear hK K z1 f1 hm10
      refine done_ (done_of HT_.out (by kernel_rfl)) ?_
      clear HT_ HW_
      have hnb : B8 ∉ ts := fun hm => by
        have := hM.mem_lt hm
        have := hb6.size
        omega
      have hT9 : ThrM w9 w.heap.size (fun q => (fun _ => 0) q = ((L.take j).map initThr).length + 1) B8 (initThr t) (.slice A6 t.length c6) (.slice none 0 0) (.slice none 0 0) :=
        ⟨blk_below e8 hb89, rfl, Kd.R_below (Kd.R_below hR6 hb68) hb89, Kd.R_nil _ _ _ _ _, Kd.R_nil _ _ _ _ _, by have := HB.size; have := hb6.size; omega⟩
      have hM2 := hM9.push hT9 hnb hg10 hR10
      have HB2 : Below w.heap.size w (World.setCell w10 ⟨mb, 1, none⟩ (.slice AP nP cP)) :=
        ((HB.trans (hb9.mono HB.size)).grown hg10 (Nat.le_trans HB.size hb9.size) (Kd.R_base hM9.ptrs)).setCell hmb _
      rw [← htk.out] at hM2
      generalize World.setCell w10 ⟨mb, 1, none⟩ (.slice AP nP cP) = w11 at hM2 HB2 ⊢
      clear hM hM9 HB hHeld hR10 hg10 hb9 hb8 hb89 hb68 hb6 hR6 e8 e9 hT9 y1 X
      go_wp2
      go_roundw
      case rel => exact ⟨j + 1, _, _, by first | rfl | go_num, by omega, hM2, HB2⟩
      case measure => simp [intOf]; omega
    · have hjj : j = L.length := by omega
      have hfin : (L.take j).map initThr = L.map initThr := by rw [hjj, List.take_length]
      rw [hfin] at hM
      replace hjj := Aside0.mk hjj
      clear hfin
      go_wp2
      refine bodyPost_ret (v := .tuple #[.pointer (some ⟨mb, 0, none⟩), .bool true]) (by simp [results, Try.results11, go_sem, *]) rfl ⟨_, _, _, _, rfl, hM, HB⟩
end Go.Proofs.Ytaenjbhhpdmhgaa.Tso
