/-
Do and Choose, done: the closure is called last. Conditions: as each theorem states them.
-/
import Derived.Test.YtaenjbhhpdmhgaaMTsE
import Derived.Test.YtaenjbhhpdmhgaaPTsoScriptx6
set_option linter.unusedVariables false
set_option linter.unusedSimpArgs false
namespace Go.Proofs.Ytaenjbhhpdmhgaa.Tso
open Go.RowKit Go.Proofs.YtaenjbhhpdmhgaaW.PrintWords Go.Proofs.YtaenjbhhpdmhgaaW.PrintLast Go.Proofs.YtaenjbhhpdmhgaaW.PrintMore
open Go.Proofs.Ytaenjbhhpdmhgaa.Kit
open Go.Proofs.Ytaenjbhhpdmhgaa.PTsoScript
section
variable {P : Program} {ops : Array Oper} {Q : Exit → Act → World → Prop}
/-- A call of a closure, by its function's contract. -/
theorem goesF_ {oi : Oper} {N : Option Tmp} {a : Act} {w : World} {K : Act → World → Prop} {f : FuncId} {fn : Func} {x : Operand} {as_ : Array Operand} {ts : Array TypeId} (hf : P.funcs[f]? = some fn) (hname : (fn.name == "runtime.NumGoroutine") = false) (hb : fn.body.isSome = true) (caps args : Array Value)
    (hw : Region.wanted oi (yielded ops a.tmps) = true) (hN : oi.dst = N) (hop : oi.op = .call { callee := .value x, args := as_, argTypes := ts }) (hx : a.eval x = .func (.func f) #[] caps) (hargs : as_.map a.eval = args)
    (h : Calls P f (args ++ caps) w fun e w' => ∃ v, e = .returned v ∧ K (a.put N v) w') : if Region.wanted oi (yielded ops a.tmps) = true then Oper.wp P oi a w K Q else K (a.put N undef) w := by
  refine call_ f (args ++ caps) hw hN ?_ h
  have he := enters_ hf hname hb (args ++ caps) w
  unfold execOp
  simp [hop, resolve, Deferred.ofValue, invoke, hx, hargs, he]
end
set_option maxHeartbeats 8000000 in
set_option maxRecDepth 100000 in
theorem do2.calls (base mb k b : Nat) (col : Nat → Nat) (ts : List Nat) (cv pv cvt wv ov : Value) (M : Mch) (t : Thr) (x : S28) (w : World) (hM : Mach w base mb col ts cv pv M) (hk : ts[k]? = some b) (ht : M.thr[k]? = some t)
    (hT : ThrM w base (fun q => col q = k + 1) b t cvt wv ov) (hbase : base ≤ w.heap.size) (ha : 0 ≤ t.at_ ∧ t.at_ < 1000000) (ge : Nat) (ce : Array Value) (hge : w.heap[ge]? = some (Obj.cells ce 40 (0, 0))) (ho : x.f0 = 2) (htw : 0 ≤ x.f2 ∧ x.f2 < 8) (r : Int) (hap : word_Apply.f x.f1 (regS t.rs x.f3) (regS t.rs x.f4) = some r) :
    Calls Try.prog 31 #[.pointer (some ⟨mb, 0, none⟩), .pointer (some ⟨b, 0, none⟩), .agg #[.int .i64 x.f0, .int .i64 x.f1, .int .i64 x.f2, .int .i64 x.f3, .int .i64 x.f4, .int .i64 x.f5, .int .u64 x.f6, .int .i64 x.f7]] w (DoP w base mb ts col pv k M M.cells { t with rs := t.rs.set x.f2.toNat r, at_ := t.at_ + 1 } 6 0 false ge ce) := by
  have hc26 : Aside0 (∀ q, cv.ownBlock = some q → ∃ cs, w.heap[q]? = some (Obj.cells cs 26 (0, 0))) := Aside0.mk (fun q hq => Kd.R_typed hM.cells q hq)
  have ho26 : Aside0 (∀ q, ov.ownBlock = some q → ∃ cs, w.heap[q]? = some (Obj.cells cs 26 (0, 0))) := Aside0.mk (fun q hq => Kd.R_typed hT.out q hq)
  obtain ⟨o, d, tw, a1, b1, c1, vl, tg⟩ := x
  obtain ⟨cds, at_, rs, wr, out, hd⟩ := t
  simp only at *
  subst ho
  obtain ⟨q, rfl⟩ := Int.eq_ofNat_of_zero_le htw.1
  have hq8 : q < 8 := by omega
  have hb := hT.blk
  have hl := hT.len
  simp only at hb hl
  have y1 := t_c1 hb
  have hat : wrap64 (at_ + 1) = at_ + 1 := wrap_in (by omega) (by omega)
  go_enter Try.func31, Try.ntmps31
  go_upto_region 1 with go_in
  have e4 := blk_alloc (blk_alloc (heap_alloc_new w (Obj.cells #[Value.pointer (some ⟨b, 0, none⟩)] 72 (0, 0))) (Obj.cells (#[.int .i64 2, .int .i64 d, .int .i64 (q : Int), .int .i64 a1, .int .i64 b1, .int .i64 c1, .int .u64 vl, .int .i64 tg]) 28 (0, 0))) (Obj.cells #[.int .i64 0, .int .i64 0, .int .i64 0, .bool false] 40 (0, 0))
  have e5 := blk_alloc (heap_alloc_new (w.alloc (Obj.cells #[Value.pointer (some ⟨b, 0, none⟩)] 72 (0, 0))) (Obj.cells (#[.int .i64 2, .int .i64 d, .int .i64 (q : Int), .int .i64 a1, .int .i64 b1, .int .i64 c1, .int .u64 vl, .int .i64 tg]) 28 (0, 0))) (Obj.cells #[.int .i64 0, .int .i64 0, .int .i64 0, .bool false] 40 (0, 0))
  have e6 := heap_alloc_new ((w.alloc (Obj.cells #[Value.pointer (some ⟨b, 0, none⟩)] 72 (0, 0))).alloc (Obj.cells (#[.int .i64 2, .int .i64 d, .int .i64 (q : Int), .int .i64 a1, .int .i64 b1, .int .i64 c1, .int .u64 vl, .int .i64 tg]) 28 (0, 0))) (Obj.cells #[.int .i64 0, .int .i64 0, .int .i64 0, .bool false] 40 (0, 0))
  have e9 := blk_alloc (blk_alloc (blk_alloc hge (Obj.cells #[Value.pointer (some ⟨b, 0, none⟩)] 72 (0, 0))) (Obj.cells (#[.int .i64 2, .int .i64 d, .int .i64 (q : Int), .int .i64 a1, .int .i64 b1, .int .i64 c1, .int .u64 vl, .int .i64 tg]) 28 (0, 0))) (Obj.cells #[.int .i64 0, .int .i64 0, .int .i64 0, .bool false] 40 (0, 0))
  have hbl : Below w.heap.size w (((w.alloc (Obj.cells #[Value.pointer (some ⟨b, 0, none⟩)] 72 (0, 0))).alloc (Obj.cells (#[.int .i64 2, .int .i64 d, .int .i64 (q : Int), .int .i64 a1, .int .i64 b1, .int .i64 c1, .int .u64 vl, .int .i64 tg]) 28 (0, 0))).alloc (Obj.cells #[.int .i64 0, .int .i64 0, .int .i64 0, .bool false] 40 (0, 0))) := below_alloc (below_alloc (below_alloc (Below.refl _ _) _) _) _
  have hM := hM.below hbl
  have hT := hT.below hbl
  have hb := hT.blk
  rw [alloc_sz] at e5
  rw [alloc_sz, alloc_sz] at e6
  generalize (((w.alloc (Obj.cells #[Value.pointer (some ⟨b, 0, none⟩)] 72 (0, 0))).alloc (Obj.cells (#[.int .i64 2, .int .i64 d, .int .i64 (q : Int), .int .i64 a1, .int .i64 b1, .int .i64 c1, .int .u64 vl, .int .i64 tg]) 28 (0, 0))).alloc (Obj.cells #[.int .i64 0, .int .i64 0, .int .i64 0, .bool false] 40 (0, 0))) = w1 at *
  obtain ⟨B4, hB4⟩ : ∃ B, B = w.heap.size := ⟨_, rfl⟩
  obtain ⟨B5, hB5⟩ : ∃ B, B = w.heap.size + 1 := ⟨_, rfl⟩
  obtain ⟨B6, hB6⟩ : ∃ B, B = w.heap.size + 1 + 1 := ⟨_, rfl⟩
  have hg6 : base ≤ B6 := by omega
  have hn6 : w.heap.size ≤ B6 := by omega
  have n96 : ge ≠ B6 := by
    have := blk_lt hge
    omega
  have hB := Keep.of (base := base) (mb := mb) (ts := ts) (col := col) hbl
  rw [← hB6] at e6 ⊢
  rw [← hB5] at e5 ⊢
  rw [← hB4] at e4 ⊢
  clear hB4 hB5 hB6 hbl
  have y1 := t_c1 hb
  have z4 : w1.cell? ⟨B4, 0, none⟩ = some (.pointer (some ⟨b, 0, none⟩)) := (blk_cell e4 0).trans rfl
  go_upto_region 2 with go_in
  have hn1 : w.heap.size ≤ w1.heap.size := hB.size
  have hg8 : base ≤ w1.heap.size := Nat.le_trans hbase (by have := blk_lt e4; have := hB.size; omega)
  have e8 := heap_alloc_new w1 (Obj.cells #[.int .i64 0, .int .i64 6, .int .i64 0, .bool false] 40 (0, 0))
  have hbl : Below w1.heap.size w1 (w1.alloc (Obj.cells #[.int .i64 0, .int .i64 6, .int .i64 0, .bool false] 40 (0, 0))) := below_alloc (Below.refl _ _) _
  have e4 := blk_below e4 hbl
  have e5 := blk_below e5 hbl
  have e6 := blk_below e6 hbl
  have e9 := blk_below e9 hbl
  have hM := hM.below hbl
  have hT := hT.below hbl
  have hb := hT.blk
  have hB := hB.bel hbl
  have hn8 : w.heap.size ≤ w1.heap.size := hn1
  have n68 : B6 ≠ w1.heap.size := Nat.ne_of_lt (blk_lt (show w1.heap[B6]? = _ from by assumption))
  have n98 : ge ≠ w1.heap.size := Nat.ne_of_lt (blk_lt (show w1.heap[ge]? = _ from by assumption))
  clear y1 z4
  generalize w1.alloc (Obj.cells #[.int .i64 0, .int .i64 6, .int .i64 0, .bool false] 40 (0, 0)) = w2 at *
  generalize w1.heap.size = B8 at *
  clear hbl
  have y1 := t_c1 hb
  have z4 : w2.cell? ⟨B4, 0, none⟩ = some (.pointer (some ⟨b, 0, none⟩)) := (blk_cell e4 0).trans rfl
  have z50 : w2.cell? ⟨B5, 0, none⟩ = some (.int .i64 2) := (blk_cell e5 0).trans rfl
  have z52 : w2.cell? ⟨B5, 2, none⟩ = some (.int .i64 (q : Int)) := (blk_cell e5 2).trans rfl
  have z51 : w2.cell? ⟨B5, 1, none⟩ = some (.int .i64 d) := (blk_cell e5 1).trans rfl
  have z53 : w2.cell? ⟨B5, 3, none⟩ = some (.int .i64 a1) := (blk_cell e5 3).trans rfl
  have z54 : w2.cell? ⟨B5, 4, none⟩ = some (.int .i64 b1) := (blk_cell e5 4).trans rfl
  have hb := hT.blk
  have lb := blk_lt hb
  have l4 := blk_lt e4
  have l5 := blk_lt e5
  have TRa := fun wx (hx : TBlk wx b cvt at_ rs wv ov hd) => reg.calls b cvt wv ov at_ rs hd a1 wx hl hx
  have TRb := fun wx (hx : TBlk wx b cvt at_ rs wv ov hd) => reg.calls b cvt wv ov at_ rs hd b1 wx hl hx
  have hbw : base ≤ w2.heap.size := Nat.le_trans hT.le (Nat.le_of_lt lb)
  go_upto_region 9 with go_in
  refine start_ (n := 13) (S := fun w' => Below w2.heap.size w2 w') (ds := [12]) #[false, false, false, false, false, false, false, false, false, false, false, false, false] (by kernel_rfl) rfl rfl (below_drew (Below.refl _ _)) (fun hHeld => ?_); refine with_tabW do31.tab9 do31.bits9 (fun HT_ HW_ => ?_)
  refine pure_ (i := 0) (N := some 42) (v := ?_) (a' := ?_) #[true, false, false, false, false, false, false, false, false, false, false, false, false] rfl rfl (any_of HT_.out (by kernel_rfl)) (fun _ _ _ h => h) (Or.inl ⟨by first | rfl | kernel_rfl, ?_⟩) ?_ ?_
  rotate_left
  · intro w'
    go_simp
    with_reducible rfl
  rotate_left
  · simp only [Act.put, List.setIfInBounds_toArray, List.set_cons_zero, List.set_cons_succ, i64_w, i32_w]
    rfl
  refine pure_ (i := 1) (N := some 43) (v := ?_) (a' := ?_) #[true, true, false, false, false, false, false, false, false, false, false, false, false] rfl rfl (any_of HT_.out (by kernel_rfl)) (fun _ _ _ h => h) (Or.inl ⟨by first | rfl | kernel_rfl, ?_⟩) ?_ ?_
  rotate_left
  · intro w'
    go_simp
    with_reducible rfl
  rotate_left
  · simp only [Act.put, List.setIfInBounds_toArray, List.set_cons_zero, List.set_cons_succ, i64_w, i32_w]
    rfl
  refine take_ (i := 2) (N := some 44) (v := ?_) (a' := ?_) #[true, true, true, false, false, false, false, false, false, false, false, false, false] rfl rfl (take_ofW HT_.out HW_.out (by kernel_rfl)) (fun _ _ _ h => h) (Or.inl ⟨by first | rfl | kernel_rfl, ?_⟩) hHeld ?_ ?_
  rotate_left
  · intro w' s0
    have zc := (s0.cell (by exact l5)).trans z51
    go_simp
    with_reducible rfl
  rotate_left
  · simp only [Act.put, List.setIfInBounds_toArray, List.set_cons_zero, List.set_cons_succ, i64_w, i32_w]
    rfl
  refine take_ (i := 3) (N := some 45) (v := ?_) (a' := ?_) #[true, true, true, true, false, false, false, false, false, false, false, false, false] rfl rfl (take_ofW HT_.out HW_.out (by kernel_rfl)) (fun _ _ _ h => h) (Or.inl ⟨by first | rfl | kernel_rfl, ?_⟩) hHeld ?_ ?_
  rotate_left
  · intro w' s0
    have zc := (s0.cell (by exact l4)).trans z4
    go_simp
    with_reducible rfl
  rotate_left
  · simp only [Act.put, List.setIfInBounds_toArray, List.set_cons_zero, List.set_cons_succ, i64_w, i32_w]
    rfl
  refine pure_ (i := 4) (N := some 46) (v := ?_) (a' := ?_) #[true, true, true, true, true, false, false, false, false, false, false, false, false] rfl rfl (any_of HT_.out (by kernel_rfl)) (fun _ _ _ h => h) (Or.inl ⟨by first | rfl | kernel_rfl, ?_⟩) ?_ ?_
  rotate_left
  · intro w'
    go_simp
    with_reducible rfl
  rotate_left
  · simp only [Act.put, List.setIfInBounds_toArray, List.set_cons_zero, List.set_cons_succ, i64_w, i32_w]
    rfl
  refine take_ (i := 5) (N := some 47) (v := ?_) (a' := ?_) #[true, true, true, true, true, true, false, false, false, false, false, false, false] rfl rfl (take_ofW HT_.out HW_.out (by kernel_rfl)) (fun _ _ _ h => h) (Or.inl ⟨by first | rfl | kernel_rfl, ?_⟩) hHeld ?_ ?_
  rotate_left
  · intro w' s0
    have zc := (s0.cell (by exact l5)).trans z53
    go_simp
    with_reducible rfl
  rotate_left
  · simp only [Act.put, List.setIfInBounds_toArray, List.set_cons_zero, List.set_cons_succ, i64_w, i32_w]
    rfl
  refine take_ (i := 7) (N := some 49) (v := ?_) (a' := ?_) #[true, true, true, true, true, true, false, true, false, false, false, false, false] rfl rfl (take_ofW HT_.out HW_.out (by kernel_rfl)) (fun _ _ _ h => h) (Or.inl ⟨by first | rfl | kernel_rfl, ?_⟩) hHeld ?_ ?_
  rotate_left
  · intro w' s0
    have zc := (s0.cell (by exact l4)).trans z4
    go_simp
    with_reducible rfl
  rotate_left
  · simp only [Act.put, List.setIfInBounds_toArray, List.set_cons_zero, List.set_cons_succ, i64_w, i32_w]
    rfl
  refine pure_ (i := 8) (N := some 50) (v := ?_) (a' := ?_) #[true, true, true, true, true, true, false, true, true, false, false, false, false] rfl rfl (any_of HT_.out (by kernel_rfl)) (fun _ _ _ h => h) (Or.inl ⟨by first | rfl | kernel_rfl, ?_⟩) ?_ ?_
  rotate_left
  · intro w'
    go_simp
    with_reducible rfl
  rotate_left
  · simp only [Act.put, List.setIfInBounds_toArray, List.set_cons_zero, List.set_cons_succ, i64_w, i32_w]
    rfl
  refine take_ (i := 9) (N := some 51) (v := ?_) (a' := ?_) #[true, true, true, true, true, true, false, true, true, true, false, false, false] rfl rfl (take_ofW HT_.out HW_.out (by kernel_rfl)) (fun _ _ _ h => h) (Or.inl ⟨by first | rfl | kernel_rfl, ?_⟩) hHeld ?_ ?_
  rotate_left
  · intro w' s0
    have zc := (s0.cell (by exact l5)).trans z54
    go_simp
    with_reducible rfl
  rotate_left
  · simp only [Act.put, List.setIfInBounds_toArray, List.set_cons_zero, List.set_cons_succ, i64_w, i32_w]
    rfl
  refine one_ (i := 6) (N := some 48) #[true, true, true, true, true, true, true, true, true, true, false, false, false] rfl rfl (one_of HT_.out (by kernel_rfl)) (by decide) (fun K hK => ?_)
  refine goes_ Try.func46 (by kernel_rfl) rfl #[.pointer (some ⟨b, 0, none⟩), .int .i64 a1] (by first | rfl | kernel_rfl) rfl rfl (by (try simp only [List.map_toArray, List.map_cons, List.map_nil]); first | done | rfl) ?_
  refine (TRa _ (blk_below hb hHeld)).mono ?_
  rintro e w8 ⟨rfl, h8⟩
  subst h8
  refine ⟨_, rfl, hK.out _ _ hHeld (fun hHeld => ?_)⟩
  clear hK K
  refine norm_ (a' := ?_) ?_ ?_
  rotate_left
  · show Act.put _ (some 48) _ = _
    simp only [Act.put, List.setIfInBounds_toArray, List.set_cons_zero, List.set_cons_succ, i64_w, i32_w]
    rfl
  refine one_ (i := 10) (N := some 52) #[true, true, true, true, true, true, true, true, true, true, true, false, false] rfl rfl (one_of HT_.out (by kernel_rfl)) (by decide) (fun K hK => ?_)
  refine goes_ Try.func46 (by kernel_rfl) rfl #[.pointer (some ⟨b, 0, none⟩), .int .i64 b1] (by first | rfl | kernel_rfl) rfl rfl (by (try simp only [List.map_toArray, List.map_cons, List.map_nil]); first | done | rfl) ?_
  refine (TRb _ (blk_below hb hHeld)).mono ?_
  rintro e w8 ⟨rfl, h8⟩
  subst h8
  refine ⟨_, rfl, hK.out _ _ hHeld (fun hHeld => ?_)⟩
  clear hK K
  refine norm_ (a' := ?_) ?_ ?_
  rotate_left
  · show Act.put _ (some 52) _ = _
    simp only [Act.put, List.setIfInBounds_toArray, List.set_cons_zero, List.set_cons_succ, i64_w, i32_w]
    rfl
  refine one_ (i := 11) (N := some 53) #[true, true, true, true, true, true, true, true, true, true, true, true, false] rfl rfl (one_of HT_.out (by kernel_rfl)) (by decide) (fun K hK => ?_)
  refine goes_ Try.func38 (by kernel_rfl) rfl #[.int .i64 d, .int .u64 (regS rs a1), .int .u64 (regS rs b1)] (by first | rfl | kernel_rfl) rfl rfl (by (try simp only [List.map_toArray, List.map_cons, List.map_nil]); first | done | rfl) ?_
  refine (word_Apply.calls d (regS rs a1) (regS rs b1) r _ hap).mono ?_
  rintro e w8 ⟨rfl, hd8⟩
  have hHeld := hHeld.trans (hd8.below.mono hHeld.size)
  refine ⟨_, rfl, hK.out _ _ hHeld (fun hHeld => ?_)⟩
  clear hK K
  refine norm_ (a' := ?_) ?_ ?_
  rotate_left
  · show Act.put _ (some 53) _ = _
    simp only [Act.put, List.setIfInBounds_toArray, List.set_cons_zero, List.set_cons_succ, i64_w, i32_w]
    rfl
  refine last_ (i := 12) (N := some 54) #[true, true, true, true, true, true, true, true, true, true, true, true, true] rfl rfl (one_of HT_.out (by kernel_rfl)) (by decide) (fun K hK => ?_)
  refine goesF_ Try.func45 (by kernel_rfl) rfl #[.pointer (some ⟨B4, 0, none⟩), .pointer (some ⟨B5, 0, none⟩)] #[.int .u64 r] (by first | rfl | kernel_rfl) rfl rfl rfl (by (try simp only [List.map_toArray, List.map_cons, List.map_nil]); first | done | rfl) ?_
  have hT9 := hT.below hHeld
  have z49 := (hHeld.cell (by exact l4)).trans z4
  have z529 := (hHeld.cell (by exact l5)).trans z52
  refine (setr.calls b B4 B5 q r _ _ _ _ _ _ _ z49 z529 hq8 hl hT9.blk).mono ?_
  rintro e w9 ⟨rfl, rfl⟩
  refine ⟨_, rfl, hK.out _ _ ?_⟩
  clear hK K z49 z529 hT9
  refine norm_ (a' := ?_) ?_ ?_
  rotate_left
  · show Act.put _ (some 54) _ = _
    simp only [Act.put, List.setIfInBounds_toArray, List.set_cons_zero, List.set_cons_succ, i64_w, i32_w]
    rfl
  refine done_ (done_of HT_.out (by kernel_rfl)) ?_
  clear HT_ HW_
  clear z4 z50 z52 z51 z53 z54 y1 lb l4 l5 hb TRa TRb
  have e4 := blk_below e4 hHeld
  have e5 := blk_below e5 hHeld
  have e6 := blk_below e6 hHeld
  have e9 := blk_below e9 hHeld
  have e8 := blk_below e8 hHeld
  have hM := hM.below hHeld
  have hT := hT.below hHeld
  have hB := hB.bel hHeld
  clear hHeld hd8
  have e4 := blk_drew e4
  have e5 := blk_drew e5
  have e6 := blk_drew e6
  have e9 := blk_drew e9
  have e8 := blk_drew e8
  have hM := hM.below (below_drew (Below.refl _ _))
  have hT := hT.below (below_drew (Below.refl _ _))
  have hB := hB.drew
  generalize w8.drew = w9 at *
  have hTn := hT.setReg q (by omega) (r)
  have hM := hM.setT hk hT.blk (2 + q) (.int .u64 (r)) _ _ _ _ hTn
  have hB := hB.setC (p := ⟨b, 2 + q, none⟩) (Or.inr ⟨hT.le, Or.inr (Or.inl (List.mem_of_getElem? hk))⟩) (.int .u64 (r))
  have e4 := blk_far (p := ⟨b, 2 + q, none⟩) e4 (blk_ne e4 hT.blk (by decide)) (.int .u64 (r))
  have e5 := blk_far (p := ⟨b, 2 + q, none⟩) e5 (blk_ne e5 hT.blk (by decide)) (.int .u64 (r))
  have e6 := blk_far (p := ⟨b, 2 + q, none⟩) e6 (blk_ne e6 hT.blk (by decide)) (.int .u64 (r))
  have e9 := blk_far (p := ⟨b, 2 + q, none⟩) e9 (blk_ne e9 hT.blk (by decide)) (.int .u64 (r))
  have e8 := blk_far (p := ⟨b, 2 + q, none⟩) e8 (blk_ne e8 hT.blk (by decide)) (.int .u64 (r))
  replace hT := hTn
  clear hTn
  generalize w9.setCell ⟨b, 2 + q, none⟩ (.int .u64 (r)) = w10 at *
  have y1 := t_c1 hT.blk
  have fz1 := blk_frozen hT.blk 1
  have z4 : w10.cell? ⟨B4, 0, none⟩ = some (.pointer (some ⟨b, 0, none⟩)) := (blk_cell e4 0).trans rfl
  go_upto_region 47 with go_in
  have hTn := hT.setAt (at_ + 1)
  have hM := hM.setT hk hT.blk 1 (.int .i64 (at_ + 1)) _ _ _ _ hTn
  have hB := hB.setC (p := ⟨b, 1, none⟩) (Or.inr ⟨hT.le, Or.inr (Or.inl (List.mem_of_getElem? hk))⟩) (.int .i64 (at_ + 1))
  have e6 := blk_far (p := ⟨b, 1, none⟩) e6 (blk_ne e6 hT.blk (by decide)) (.int .i64 (at_ + 1))
  have e9 := blk_far (p := ⟨b, 1, none⟩) e9 (blk_ne e9 hT.blk (by decide)) (.int .i64 (at_ + 1))
  have e8 := blk_far (p := ⟨b, 1, none⟩) e8 (blk_ne e8 hT.blk (by decide)) (.int .i64 (at_ + 1))
  clear y1 fz1 z4 hT hTn
  generalize w10.setCell ⟨b, 1, none⟩ (.int .i64 (at_ + 1)) = wZ at *
  have x80 := (blk_cell e8 0).trans rfl
  have x81 := (blk_cell e8 1).trans rfl
  have x82 := (blk_cell e8 2).trans rfl
  have x83 := (blk_cell e8 3).trans rfl
  have x60 := (blk_cell e6 0).trans rfl
  have x61 := (blk_cell e6 1).trans rfl
  have x62 := (blk_cell e6 2).trans rfl
  have x63 := (blk_cell e6 3).trans rfl
  have f60 : ∀ k, wZ.frozen? ⟨B6, k, none⟩ = false := fun k => by simp [World.frozen?, e6]
  go_wp2
  refine bodyPost_ret (results_c rfl _ _ B6 40 (eArr 0 (6) (0) (false)) (0, 0) _ rfl (put_ev e6) Try.underlying40 rfl (by kernel_rfl)) rfl ?_
  have hF := hM.event (a := 0) (b := 6) (c := 0) (h := false) e6
  try simp only [List.set_set] at hF
  try (have hrv2 := hrv.out; subst hrv2)
  try (have hvv2 := hvv.out; subst hvv2)
  try (have hht2 := hht.out; subst hht2)
  exact ⟨rfl, hB.ev hn6, far_ev e9 n96, _, _, fun _ _ => rfl, hF⟩
set_option maxHeartbeats 8000000 in
set_option maxRecDepth 100000 in
theorem do3.calls (base mb k b : Nat) (col : Nat → Nat) (ts : List Nat) (cv pv cvt wv ov : Value) (M : Mch) (t : Thr) (x : S28) (w : World) (hM : Mach w base mb col ts cv pv M) (hk : ts[k]? = some b) (ht : M.thr[k]? = some t)
    (hT : ThrM w base (fun q => col q = k + 1) b t cvt wv ov) (hbase : base ≤ w.heap.size) (ha : 0 ≤ t.at_ ∧ t.at_ < 1000000) (ge : Nat) (ce : Array Value) (hge : w.heap[ge]? = some (Obj.cells ce 40 (0, 0))) (ho : x.f0 = 3) (htw : 0 ≤ x.f2 ∧ x.f2 < 8) (r : Int) (hap : word_Pick.f (regS t.rs x.f3) (regS t.rs x.f4) (regS t.rs x.f5) = some r) :
    Calls Try.prog 31 #[.pointer (some ⟨mb, 0, none⟩), .pointer (some ⟨b, 0, none⟩), .agg #[.int .i64 x.f0, .int .i64 x.f1, .int .i64 x.f2, .int .i64 x.f3, .int .i64 x.f4, .int .i64 x.f5, .int .u64 x.f6, .int .i64 x.f7]] w (DoP w base mb ts col pv k M M.cells { t with rs := t.rs.set x.f2.toNat r, at_ := t.at_ + 1 } 6 0 false ge ce) := by
  have hc26 : Aside0 (∀ q, cv.ownBlock = some q → ∃ cs, w.heap[q]? = some (Obj.cells cs 26 (0, 0))) := Aside0.mk (fun q hq => Kd.R_typed hM.cells q hq)
  have ho26 : Aside0 (∀ q, ov.ownBlock = some q → ∃ cs, w.heap[q]? = some (Obj.cells cs 26 (0, 0))) := Aside0.mk (fun q hq => Kd.R_typed hT.out q hq)
  obtain ⟨o, d, tw, a1, b1, c1, vl, tg⟩ := x
  obtain ⟨cds, at_, rs, wr, out, hd⟩ := t
  simp only at *
  subst ho
  obtain ⟨q, rfl⟩ := Int.eq_ofNat_of_zero_le htw.1
  have hq8 : q < 8 := by omega
  have hb := hT.blk
  have hl := hT.len
  simp only at hb hl
  have y1 := t_c1 hb
  have hat : wrap64 (at_ + 1) = at_ + 1 := wrap_in (by omega) (by omega)
  go_enter Try.func31, Try.ntmps31
  go_upto_region 1 with go_in
  have e4 := blk_alloc (blk_alloc (heap_alloc_new w (Obj.cells #[Value.pointer (some ⟨b, 0, none⟩)] 72 (0, 0))) (Obj.cells (#[.int .i64 3, .int .i64 d, .int .i64 (q : Int), .int .i64 a1, .int .i64 b1, .int .i64 c1, .int .u64 vl, .int .i64 tg]) 28 (0, 0))) (Obj.cells #[.int .i64 0, .int .i64 0, .int .i64 0, .bool false] 40 (0, 0))
  have e5 := blk_alloc (heap_alloc_new (w.alloc (Obj.cells #[Value.pointer (some ⟨b, 0, none⟩)] 72 (0, 0))) (Obj.cells (#[.int .i64 3, .int .i64 d, .int .i64 (q : Int), .int .i64 a1, .int .i64 b1, .int .i64 c1, .int .u64 vl, .int .i64 tg]) 28 (0, 0))) (Obj.cells #[.int .i64 0, .int .i64 0, .int .i64 0, .bool false] 40 (0, 0))
  have e6 := heap_alloc_new ((w.alloc (Obj.cells #[Value.pointer (some ⟨b, 0, none⟩)] 72 (0, 0))).alloc (Obj.cells (#[.int .i64 3, .int .i64 d, .int .i64 (q : Int), .int .i64 a1, .int .i64 b1, .int .i64 c1, .int .u64 vl, .int .i64 tg]) 28 (0, 0))) (Obj.cells #[.int .i64 0, .int .i64 0, .int .i64 0, .bool false] 40 (0, 0))
  have e9 := blk_alloc (blk_alloc (blk_alloc hge (Obj.cells #[Value.pointer (some ⟨b, 0, none⟩)] 72 (0, 0))) (Obj.cells (#[.int .i64 3, .int .i64 d, .int .i64 (q : Int), .int .i64 a1, .int .i64 b1, .int .i64 c1, .int .u64 vl, .int .i64 tg]) 28 (0, 0))) (Obj.cells #[.int .i64 0, .int .i64 0, .int .i64 0, .bool false] 40 (0, 0))
  have hbl : Below w.heap.size w (((w.alloc (Obj.cells #[Value.pointer (some ⟨b, 0, none⟩)] 72 (0, 0))).alloc (Obj.cells (#[.int .i64 3, .int .i64 d, .int .i64 (q : Int), .int .i64 a1, .int .i64 b1, .int .i64 c1, .int .u64 vl, .int .i64 tg]) 28 (0, 0))).alloc (Obj.cells #[.int .i64 0, .int .i64 0, .int .i64 0, .bool false] 40 (0, 0))) := below_alloc (below_alloc (below_alloc (Below.refl _ _) _) _) _
  have hM := hM.below hbl
  have hT := hT.below hbl
  have hb := hT.blk
  rw [alloc_sz] at e5
  rw [alloc_sz, alloc_sz] at e6
  generalize (((w.alloc (Obj.cells #[Value.pointer (some ⟨b, 0, none⟩)] 72 (0, 0))).alloc (Obj.cells (#[.int .i64 3, .int .i64 d, .int .i64 (q : Int), .int .i64 a1, .int .i64 b1, .int .i64 c1, .int .u64 vl, .int .i64 tg]) 28 (0, 0))).alloc (Obj.cells #[.int .i64 0, .int .i64 0, .int .i64 0, .bool false] 40 (0, 0))) = w1 at *
  obtain ⟨B4, hB4⟩ : ∃ B, B = w.heap.size := ⟨_, rfl⟩
  obtain ⟨B5, hB5⟩ : ∃ B, B = w.heap.size + 1 := ⟨_, rfl⟩
  obtain ⟨B6, hB6⟩ : ∃ B, B = w.heap.size + 1 + 1 := ⟨_, rfl⟩
  have hg6 : base ≤ B6 := by omega
  have hn6 : w.heap.size ≤ B6 := by omega
  have n96 : ge ≠ B6 := by
    have := blk_lt hge
    omega
  have hB := Keep.of (base := base) (mb := mb) (ts := ts) (col := col) hbl
  rw [← hB6] at e6 ⊢
  rw [← hB5] at e5 ⊢
  rw [← hB4] at e4 ⊢
  clear hB4 hB5 hB6 hbl
  have y1 := t_c1 hb
  have z4 : w1.cell? ⟨B4, 0, none⟩ = some (.pointer (some ⟨b, 0, none⟩)) := (blk_cell e4 0).trans rfl
  go_upto_region 2 with go_in
  have hn1 : w.heap.size ≤ w1.heap.size := hB.size
  have hg8 : base ≤ w1.heap.size := Nat.le_trans hbase (by have := blk_lt e4; have := hB.size; omega)
  have e8 := heap_alloc_new w1 (Obj.cells #[.int .i64 0, .int .i64 6, .int .i64 0, .bool false] 40 (0, 0))
  have hbl : Below w1.heap.size w1 (w1.alloc (Obj.cells #[.int .i64 0, .int .i64 6, .int .i64 0, .bool false] 40 (0, 0))) := below_alloc (Below.refl _ _) _
  have e4 := blk_below e4 hbl
  have e5 := blk_below e5 hbl
  have e6 := blk_below e6 hbl
  have e9 := blk_below e9 hbl
  have hM := hM.below hbl
  have hT := hT.below hbl
  have hb := hT.blk
  have hB := hB.bel hbl
  have hn8 : w.heap.size ≤ w1.heap.size := hn1
  have n68 : B6 ≠ w1.heap.size := Nat.ne_of_lt (blk_lt (show w1.heap[B6]? = _ from by assumption))
  have n98 : ge ≠ w1.heap.size := Nat.ne_of_lt (blk_lt (show w1.heap[ge]? = _ from by assumption))
  clear y1 z4
  generalize w1.alloc (Obj.cells #[.int .i64 0, .int .i64 6, .int .i64 0, .bool false] 40 (0, 0)) = w2 at *
  generalize w1.heap.size = B8 at *
  clear hbl
  have y1 := t_c1 hb
  have z4 : w2.cell? ⟨B4, 0, none⟩ = some (.pointer (some ⟨b, 0, none⟩)) := (blk_cell e4 0).trans rfl
  have z50 : w2.cell? ⟨B5, 0, none⟩ = some (.int .i64 3) := (blk_cell e5 0).trans rfl
  have z52 : w2.cell? ⟨B5, 2, none⟩ = some (.int .i64 (q : Int)) := (blk_cell e5 2).trans rfl
  have z53 : w2.cell? ⟨B5, 3, none⟩ = some (.int .i64 a1) := (blk_cell e5 3).trans rfl
  have z54 : w2.cell? ⟨B5, 4, none⟩ = some (.int .i64 b1) := (blk_cell e5 4).trans rfl
  have z55 : w2.cell? ⟨B5, 5, none⟩ = some (.int .i64 c1) := (blk_cell e5 5).trans rfl
  have hb := hT.blk
  have lb := blk_lt hb
  have l4 := blk_lt e4
  have l5 := blk_lt e5
  have TRa := fun wx (hx : TBlk wx b cvt at_ rs wv ov hd) => reg.calls b cvt wv ov at_ rs hd a1 wx hl hx
  have TRb := fun wx (hx : TBlk wx b cvt at_ rs wv ov hd) => reg.calls b cvt wv ov at_ rs hd b1 wx hl hx
  have TRc := fun wx (hx : TBlk wx b cvt at_ rs wv ov hd) => reg.calls b cvt wv ov at_ rs hd c1 wx hl hx
  have hbw : base ≤ w2.heap.size := Nat.le_trans hT.le (Nat.le_of_lt lb)
  go_upto_region 11 with go_in
  refine start_ (n := 15) (S := fun w' => Below w2.heap.size w2 w') (ds := [14]) #[false, false, false, false, false, false, false, false, false, false, false, false, false, false, false] (by kernel_rfl) rfl rfl (below_drew (Below.refl _ _)) (fun hHeld => ?_); refine with_tabW do31.tab11 do31.bits11 (fun HT_ HW_ => ?_)
  refine pure_ (i := 0) (N := some 57) (v := ?_) (a' := ?_) #[true, false, false, false, false, false, false, false, false, false, false, false, false, false, false] rfl rfl (any_of HT_.out (by kernel_rfl)) (fun _ _ _ h => h) (Or.inl ⟨by first | rfl | kernel_rfl, ?_⟩) ?_ ?_
  rotate_left
  · intro w'
    go_simp
    with_reducible rfl
  rotate_left
  · simp only [Act.put, List.setIfInBounds_toArray, List.set_cons_zero, List.set_cons_succ, i64_w, i32_w]
    rfl
  refine take_ (i := 1) (N := some 58) (v := ?_) (a' := ?_) #[true, true, false, false, false, false, false, false, false, false, false, false, false, false, false] rfl rfl (take_ofW HT_.out HW_.out (by kernel_rfl)) (fun _ _ _ h => h) (Or.inl ⟨by first | rfl | kernel_rfl, ?_⟩) hHeld ?_ ?_
  rotate_left
  · intro w' s0
    have zc := (s0.cell (by exact l4)).trans z4
    go_simp
    with_reducible rfl
  rotate_left
  · simp only [Act.put, List.setIfInBounds_toArray, List.set_cons_zero, List.set_cons_succ, i64_w, i32_w]
    rfl
  refine pure_ (i := 2) (N := some 59) (v := ?_) (a' := ?_) #[true, true, true, false, false, false, false, false, false, false, false, false, false, false, false] rfl rfl (any_of HT_.out (by kernel_rfl)) (fun _ _ _ h => h) (Or.inl ⟨by first | rfl | kernel_rfl, ?_⟩) ?_ ?_
  rotate_left
  · intro w'
    go_simp
    with_reducible rfl
  rotate_left
  · simp only [Act.put, List.setIfInBounds_toArray, List.set_cons_zero, List.set_cons_succ, i64_w, i32_w]
    rfl
  refine take_ (i := 3) (N := some 60) (v := ?_) (a' := ?_) #[true, true, true, true, false, false, false, false, false, false, false, false, false, false, false] rfl rfl (take_ofW HT_.out HW_.out (by kernel_rfl)) (fun _ _ _ h => h) (Or.inl ⟨by first | rfl | kernel_rfl, ?_⟩) hHeld ?_ ?_
  rotate_left
  · intro w' s0
    have zc := (s0.cell (by exact l5)).trans z53
    go_simp
    with_reducible rfl
  rotate_left
  · simp only [Act.put, List.setIfInBounds_toArray, List.set_cons_zero, List.set_cons_succ, i64_w, i32_w]
    rfl
  refine take_ (i := 5) (N := some 62) (v := ?_) (a' := ?_) #[true, true, true, true, false, true, false, false, false, false, false, false, false, false, false] rfl rfl (take_ofW HT_.out HW_.out (by kernel_rfl)) (fun _ _ _ h => h) (Or.inl ⟨by first | rfl | kernel_rfl, ?_⟩) hHeld ?_ ?_
  rotate_left
  · intro w' s0
    have zc := (s0.cell (by exact l4)).trans z4
    go_simp
    with_reducible rfl
  rotate_left
  · simp only [Act.put, List.setIfInBounds_toArray, List.set_cons_zero, List.set_cons_succ, i64_w, i32_w]
    rfl
  refine pure_ (i := 6) (N := some 63) (v := ?_) (a' := ?_) #[true, true, true, true, false, true, true, false, false, false, false, false, false, false, false] rfl rfl (any_of HT_.out (by kernel_rfl)) (fun _ _ _ h => h) (Or.inl ⟨by first | rfl | kernel_rfl, ?_⟩) ?_ ?_
  rotate_left
  · intro w'
    go_simp
    with_reducible rfl
  rotate_left
  · simp only [Act.put, List.setIfInBounds_toArray, List.set_cons_zero, List.set_cons_succ, i64_w, i32_w]
    rfl
  refine take_ (i := 7) (N := some 64) (v := ?_) (a' := ?_) #[true, true, true, true, false, true, true, true, false, false, false, false, false, false, false] rfl rfl (take_ofW HT_.out HW_.out (by kernel_rfl)) (fun _ _ _ h => h) (Or.inl ⟨by first | rfl | kernel_rfl, ?_⟩) hHeld ?_ ?_
  rotate_left
  · intro w' s0
    have zc := (s0.cell (by exact l5)).trans z54
    go_simp
    with_reducible rfl
  rotate_left
  · simp only [Act.put, List.setIfInBounds_toArray, List.set_cons_zero, List.set_cons_succ, i64_w, i32_w]
    rfl
  refine take_ (i := 9) (N := some 66) (v := ?_) (a' := ?_) #[true, true, true, true, false, true, true, true, false, true, false, false, false, false, false] rfl rfl (take_ofW HT_.out HW_.out (by kernel_rfl)) (fun _ _ _ h => h) (Or.inl ⟨by first | rfl | kernel_rfl, ?_⟩) hHeld ?_ ?_
  rotate_left
  · intro w' s0
    have zc := (s0.cell (by exact l4)).trans z4
    go_simp
    with_reducible rfl
  rotate_left
  · simp only [Act.put, List.setIfInBounds_toArray, List.set_cons_zero, List.set_cons_succ, i64_w, i32_w]
    rfl
  refine pure_ (i := 10) (N := some 67) (v := ?_) (a' := ?_) #[true, true, true, true, false, true, true, true, false, true, true, false, false, false, false] rfl rfl (any_of HT_.out (by kernel_rfl)) (fun _ _ _ h => h) (Or.inl ⟨by first | rfl | kernel_rfl, ?_⟩) ?_ ?_
  rotate_left
  · intro w'
    go_simp
    with_reducible rfl
  rotate_left
  · simp only [Act.put, List.setIfInBounds_toArray, List.set_cons_zero, List.set_cons_succ, i64_w, i32_w]
    rfl
  refine take_ (i := 11) (N := some 68) (v := ?_) (a' := ?_) #[true, true, true, true, false, true, true, true, false, true, true, true, false, false, false] rfl rfl (take_ofW HT_.out HW_.out (by kernel_rfl)) (fun _ _ _ h => h) (Or.inl ⟨by first | rfl | kernel_rfl, ?_⟩) hHeld ?_ ?_
  rotate_left
  · intro w' s0
    have zc := (s0.cell (by exact l5)).trans z55
    go_simp
    with_reducible rfl
  rotate_left
  · simp only [Act.put, List.setIfInBounds_toArray, List.set_cons_zero, List.set_cons_succ, i64_w, i32_w]
    rfl
  refine one_ (i := 4) (N := some 61) #[true, true, true, true, true, true, true, true, false, true, true, true, false, false, false] rfl rfl (one_of HT_.out (by kernel_rfl)) (by decide) (fun K hK => ?_)
  refine goes_ Try.func46 (by kernel_rfl) rfl #[.pointer (some ⟨b, 0, none⟩), .int .i64 a1] (by first | rfl | kernel_rfl) rfl rfl (by (try simp only [List.map_toArray, List.map_cons, List.map_nil]); first | done | rfl) ?_
  refine (TRa _ (blk_below hb hHeld)).mono ?_
  rintro e w8 ⟨rfl, h8⟩
  subst h8
  refine ⟨_, rfl, hK.out _ _ hHeld (fun hHeld => ?_)⟩
  clear hK K
  refine norm_ (a' := ?_) ?_ ?_
  rotate_left
  · show Act.put _ (some 61) _ = _
    simp only [Act.put, List.setIfInBounds_toArray, List.set_cons_zero, List.set_cons_succ, i64_w, i32_w]
    rfl
  refine one_ (i := 8) (N := some 65) #[true, true, true, true, true, true, true, true, true, true, true, true, false, false, false] rfl rfl (one_of HT_.out (by kernel_rfl)) (by decide) (fun K hK => ?_)
  refine goes_ Try.func46 (by kernel_rfl) rfl #[.pointer (some ⟨b, 0, none⟩), .int .i64 b1] (by first | rfl | kernel_rfl) rfl rfl (by (try simp only [List.map_toArray, List.map_cons, List.map_nil]); first | done | rfl) ?_
  refine (TRb _ (blk_below hb hHeld)).mono ?_
  rintro e w8 ⟨rfl, h8⟩
  subst h8
  refine ⟨_, rfl, hK.out _ _ hHeld (fun hHeld => ?_)⟩
  clear hK K
  refine norm_ (a' := ?_) ?_ ?_
  rotate_left
  · show Act.put _ (some 65) _ = _
    simp only [Act.put, List.setIfInBounds_toArray, List.set_cons_zero, List.set_cons_succ, i64_w, i32_w]
    rfl
  refine one_ (i := 12) (N := some 69) #[true, true, true, true, true, true, true, true, true, true, true, true, true, false, false] rfl rfl (one_of HT_.out (by kernel_rfl)) (by decide) (fun K hK => ?_)
  refine goes_ Try.func46 (by kernel_rfl) rfl #[.pointer (some ⟨b, 0, none⟩), .int .i64 c1] (by first | rfl | kernel_rfl) rfl rfl (by (try simp only [List.map_toArray, List.map_cons, List.map_nil]); first | done | rfl) ?_
  refine (TRc _ (blk_below hb hHeld)).mono ?_
  rintro e w8 ⟨rfl, h8⟩
  subst h8
  refine ⟨_, rfl, hK.out _ _ hHeld (fun hHeld => ?_)⟩
  clear hK K
  refine norm_ (a' := ?_) ?_ ?_
  rotate_left
  · show Act.put _ (some 69) _ = _
    simp only [Act.put, List.setIfInBounds_toArray, List.set_cons_zero, List.set_cons_succ, i64_w, i32_w]
    rfl
  refine one_ (i := 13) (N := some 70) #[true, true, true, true, true, true, true, true, true, true, true, true, true, true, false] rfl rfl (one_of HT_.out (by kernel_rfl)) (by decide) (fun K hK => ?_)
  refine goes_ Try.func39 (by kernel_rfl) rfl #[.int .u64 (regS rs a1), .int .u64 (regS rs b1), .int .u64 (regS rs c1)] (by first | rfl | kernel_rfl) rfl rfl (by (try simp only [List.map_toArray, List.map_cons, List.map_nil]); first | done | rfl) ?_
  refine (word_Pick.calls (regS rs a1) (regS rs b1) (regS rs c1) r _ hap).mono ?_
  rintro e w8 ⟨rfl, hd8⟩
  have hHeld := hHeld.trans (hd8.below.mono hHeld.size)
  refine ⟨_, rfl, hK.out _ _ hHeld (fun hHeld => ?_)⟩
  clear hK K
  refine norm_ (a' := ?_) ?_ ?_
  rotate_left
  · show Act.put _ (some 70) _ = _
    simp only [Act.put, List.setIfInBounds_toArray, List.set_cons_zero, List.set_cons_succ, i64_w, i32_w]
    rfl
  refine last_ (i := 14) (N := some 71) #[true, true, true, true, true, true, true, true, true, true, true, true, true, true, true] rfl rfl (one_of HT_.out (by kernel_rfl)) (by decide) (fun K hK => ?_)
  refine goesF_ Try.func45 (by kernel_rfl) rfl #[.pointer (some ⟨B4, 0, none⟩), .pointer (some ⟨B5, 0, none⟩)] #[.int .u64 r] (by first | rfl | kernel_rfl) rfl rfl rfl (by (try simp only [List.map_toArray, List.map_cons, List.map_nil]); first | done | rfl) ?_
  have hT9 := hT.below hHeld
  have z49 := (hHeld.cell (by exact l4)).trans z4
  have z529 := (hHeld.cell (by exact l5)).trans z52
  refine (setr.calls b B4 B5 q r _ _ _ _ _ _ _ z49 z529 hq8 hl hT9.blk).mono ?_
  rintro e w9 ⟨rfl, rfl⟩
  refine ⟨_, rfl, hK.out _ _ ?_⟩
  clear hK K z49 z529 hT9
  refine norm_ (a' := ?_) ?_ ?_
  rotate_left
  · show Act.put _ (some 71) _ = _
    simp only [Act.put, List.setIfInBounds_toArray, List.set_cons_zero, List.set_cons_succ, i64_w, i32_w]
    rfl
  refine done_ (done_of HT_.out (by kernel_rfl)) ?_
  clear HT_ HW_
  clear z4 z50 z52 z53 z54 z55 y1 lb l4 l5 hb TRa TRb TRc
  have e4 := blk_below e4 hHeld
  have e5 := blk_below e5 hHeld
  have e6 := blk_below e6 hHeld
  have e9 := blk_below e9 hHeld
  have e8 := blk_below e8 hHeld
  have hM := hM.below hHeld
  have hT := hT.below hHeld
  have hB := hB.bel hHeld
  clear hHeld hd8
  have e4 := blk_drew e4
  have e5 := blk_drew e5
  have e6 := blk_drew e6
  have e9 := blk_drew e9
  have e8 := blk_drew e8
  have hM := hM.below (below_drew (Below.refl _ _))
  have hT := hT.below (below_drew (Below.refl _ _))
  have hB := hB.drew
  generalize w8.drew = w9 at *
  have hTn := hT.setReg q (by omega) (r)
  have hM := hM.setT hk hT.blk (2 + q) (.int .u64 (r)) _ _ _ _ hTn
  have hB := hB.setC (p := ⟨b, 2 + q, none⟩) (Or.inr ⟨hT.le, Or.inr (Or.inl (List.mem_of_getElem? hk))⟩) (.int .u64 (r))
  have e4 := blk_far (p := ⟨b, 2 + q, none⟩) e4 (blk_ne e4 hT.blk (by decide)) (.int .u64 (r))
  have e5 := blk_far (p := ⟨b, 2 + q, none⟩) e5 (blk_ne e5 hT.blk (by decide)) (.int .u64 (r))
  have e6 := blk_far (p := ⟨b, 2 + q, none⟩) e6 (blk_ne e6 hT.blk (by decide)) (.int .u64 (r))
  have e9 := blk_far (p := ⟨b, 2 + q, none⟩) e9 (blk_ne e9 hT.blk (by decide)) (.int .u64 (r))
  have e8 := blk_far (p := ⟨b, 2 + q, none⟩) e8 (blk_ne e8 hT.blk (by decide)) (.int .u64 (r))
  replace hT := hTn
  clear hTn
  generalize w9.setCell ⟨b, 2 + q, none⟩ (.int .u64 (r)) = w10 at *
  have y1 := t_c1 hT.blk
  have fz1 := blk_frozen hT.blk 1
  have z4 : w10.cell? ⟨B4, 0, none⟩ = some (.pointer (some ⟨b, 0, none⟩)) := (blk_cell e4 0).trans rfl
  go_upto_region 47 with go_in
  have hTn := hT.setAt (at_ + 1)
  have hM := hM.setT hk hT.blk 1 (.int .i64 (at_ + 1)) _ _ _ _ hTn
  have hB := hB.setC (p := ⟨b, 1, none⟩) (Or.inr ⟨hT.le, Or.inr (Or.inl (List.mem_of_getElem? hk))⟩) (.int .i64 (at_ + 1))
  have e6 := blk_far (p := ⟨b, 1, none⟩) e6 (blk_ne e6 hT.blk (by decide)) (.int .i64 (at_ + 1))
  have e9 := blk_far (p := ⟨b, 1, none⟩) e9 (blk_ne e9 hT.blk (by decide)) (.int .i64 (at_ + 1))
  have e8 := blk_far (p := ⟨b, 1, none⟩) e8 (blk_ne e8 hT.blk (by decide)) (.int .i64 (at_ + 1))
  clear y1 fz1 z4 hT hTn
  generalize w10.setCell ⟨b, 1, none⟩ (.int .i64 (at_ + 1)) = wZ at *
  have x80 := (blk_cell e8 0).trans rfl
  have x81 := (blk_cell e8 1).trans rfl
  have x82 := (blk_cell e8 2).trans rfl
  have x83 := (blk_cell e8 3).trans rfl
  have x60 := (blk_cell e6 0).trans rfl
  have x61 := (blk_cell e6 1).trans rfl
  have x62 := (blk_cell e6 2).trans rfl
  have x63 := (blk_cell e6 3).trans rfl
  have f60 : ∀ k, wZ.frozen? ⟨B6, k, none⟩ = false := fun k => by simp [World.frozen?, e6]
  go_wp2
  refine bodyPost_ret (results_c rfl _ _ B6 40 (eArr 0 (6) (0) (false)) (0, 0) _ rfl (put_ev e6) Try.underlying40 rfl (by kernel_rfl)) rfl ?_
  have hF := hM.event (a := 0) (b := 6) (c := 0) (h := false) e6
  try simp only [List.set_set] at hF
  try (have hrv2 := hrv.out; subst hrv2)
  try (have hvv2 := hvv.out; subst hvv2)
  try (have hht2 := hht.out; subst hht2)
  exact ⟨rfl, hB.ev hn6, far_ev e9 n96, _, _, fun _ _ => rfl, hF⟩
end Go.Proofs.Ytaenjbhhpdmhgaa.Tso
