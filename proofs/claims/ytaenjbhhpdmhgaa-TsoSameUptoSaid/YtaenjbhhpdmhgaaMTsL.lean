/-
The codes of the document's example: tautochronelaw23.two. Conditions: as each theorem states them.
-/
import Derived.Test.YtaenjbhhpdmhgaaMTsJ
set_option linter.unusedVariables false
set_option linter.unusedSimpArgs false
namespace Go.Proofs.Ytaenjbhhpdmhgaa.Tso
open Go.RowKit Go.Proofs.YtaenjbhhpdmhgaaW.PrintWords Go.Proofs.YtaenjbhhpdmhgaaW.PrintLast Go.Proofs.YtaenjbhhpdmhgaaW.PrintMore
open Go.Proofs.Ytaenjbhhpdmhgaa.Kit
open Go.Proofs.Ytaenjbhhpdmhgaa.PTsoScript
/-- What counts of a code. -/
def bareX (x : S28) : S28 :=
  let r := Pure.bareS x.f0 x.f1 x.f2 x.f3 x.f4 x.f5 x.f6 x.f7
  ⟨r.1, r.2.1, r.2.2.1, r.2.2.2.1, r.2.2.2.2.1, r.2.2.2.2.2.1, r.2.2.2.2.2.2.1, r.2.2.2.2.2.2.2⟩
theorem bareX_calls (x : S28) (w : World) : Calls Try.prog 10 #[.agg #[.int .i64 x.f0, .int .i64 x.f1, .int .i64 x.f2, .int .i64 x.f3, .int .i64 x.f4, .int .i64 x.f5, .int .u64 x.f6, .int .i64 x.f7]] w fun e w' =>
    e = .returned (.agg #[.int .i64 (bareX x).f0, .int .i64 (bareX x).f1, .int .i64 (bareX x).f2, .int .i64 (bareX x).f3, .int .i64 (bareX x).f4, .int .i64 (bareX x).f5, .int .u64 (bareX x).f6, .int .i64 (bareX x).f7]) ∧ Below w.heap.size w w' := by
  obtain ⟨k, hk⟩ : ∃ k, encode_Bare.f k x.f0 x.f1 x.f2 x.f3 x.f4 x.f5 x.f6 x.f7 = some (Pure.bareS x.f0 x.f1 x.f2 x.f3 x.f4 x.f5 x.f6 x.f7) := Ev.rounds (Pure.Bare_ev ..)
  exact encode_Bare.calls k _ _ _ _ _ _ _ _ _ _ _ _ _ _ _ _ w hk
/-- Where the codes stand, the first of them already bare. -/
def mixS (l : List S28) (j : Nat) : List S28 := (l.take j).map bareX ++ l.drop j
theorem mixS_len (l : List S28) (j : Nat) : (mixS l j).length = l.length := by simp [mixS]; omega
theorem mixS_zero (l : List S28) : mixS l 0 = l := by simp [mixS]
theorem mixS_all (l : List S28) : mixS l l.length = l.map bareX := by simp [mixS]
theorem mixS_at (l : List S28) (j : Nat) (h : j < l.length) : rd_T28 (mixS l j) (j : Int) = l[j] := by
  rw [Pure.rdT_at _ _ (by rw [mixS_len]; exact h)]
  unfold mixS
  rw [List.getElem_append_right (by simp; omega)]
  simp [Nat.min_eq_left (Nat.le_of_lt h)]
theorem mixS_set (l : List S28) (j : Nat) (h : j < l.length) : (mixS l j).set j (bareX l[j]) = mixS l (j + 1) := by
  have hd : l.drop j = l[j] :: l.drop (j + 1) := List.drop_eq_getElem_cons h
  have ht : l.take (j + 1) = l.take j ++ [l[j]] := by rw [List.take_add_one, List.getElem?_eq_getElem h]; rfl
  have hl : ((l.take j).map bareX).length = j := by rw [List.length_map, List.length_take]; omega
  unfold mixS
  rw [ht, hd, List.set_append_right _ _ (by omega), hl, Nat.sub_self, List.set_cons_zero, List.map_append, List.append_assoc]
  rfl
theorem add_zero (g k : Nat) : (⟨g, 0, none⟩ : Addr).add k = ⟨g, k, none⟩ := by
  have h : (⟨g, 0, none⟩ : Addr).add k = ⟨g, 0 + k, none⟩ := by unfold Addr.add; split <;> simp_all
  rw [h, Nat.zero_add]
def rawTwo (a b : Int) : List S28 := [⟨0, 0, 0, 0, 0, 0, 1, 0⟩, ⟨5, 0, 0, -1, 0, 0, a, 0⟩, ⟨4, 0, 1, -1, 0, 0, b, 0⟩, ⟨12, 0, 0, 1, 0, 0, 0, 0⟩, ⟨13, 0, 0, 0, 0, 0, 0, 0⟩]
def cells28 (x : S28) : List Value := [.int .i64 x.f0, .int .i64 x.f1, .int .i64 x.f2, .int .i64 x.f3, .int .i64 x.f4, .int .i64 x.f5, .int .u64 x.f6, .int .i64 x.f7]
theorem reps28 (w : World) (base : Nat) (ok : Nat → Prop) : ∀ xs : List S28, Reps (k28.M w base ok) 8 xs (xs.flatMap cells28)
  | [] => Reps.none _ _
  | x :: xs => Reps.front (k28_mkM w base ok x) rfl (reps28 w base ok xs) rfl
/-- A row of codes at one place: its cells there, and another code put there. -/
theorem row28_at {w : World} {base : Nat} {g n c : Nat} {l : List S28} (h : Kd.R k28 28 w base (fun _ => True) (.slice (some ⟨g, 0, none⟩) n c) l) (j : Nat) (hj : j < l.length) (x' : S28) :
    ∃ cs : List Value, cs.length = 8 ∧ (∀ i u, cs[i]? = some u → w.cell? ⟨g, (j : Int).toNat * 8 + i, none⟩ = some u) ∧ k28.M w base (fun _ => False) x' (cs.take 0 ++ cells28 x' ++ cs.drop (0 + (cells28 x').length)) := by
  obtain ⟨_, _, hC⟩ := Kd.R_reads' h
  obtain ⟨ad, cs, ead, hcl, hK, hcc⟩ := Kd.C_get hC z28 (j : Int) (by omega) (by omega)
  obtain rfl := Option.some.inj ead
  refine ⟨cs, hcl, fun i u hu => ?_, ?_⟩
  · have := hcc i u hu
    rw [add_zero] at this
    exact this
  · rw [List.take_zero, List.nil_append, List.drop_eq_nil_of_le (by rw [show cs.length = 8 from hcl]; exact Nat.le_refl _), List.append_nil]
    exact k28_mkM _ _ _ _
theorem row28_cells {w : World} {base : Nat} {g n c : Nat} {l : List S28} (h : Kd.R k28 28 w base (fun _ => True) (.slice (some ⟨g, 0, none⟩) n c) l) (j : Nat) (hj : j < l.length) :
    w.cell? ⟨g, j * 8, none⟩ = some (.int .i64 (rd_T28 l (j : Int)).f0) ∧ w.cell? ⟨g, j * 8 + 1, none⟩ = some (.int .i64 (rd_T28 l (j : Int)).f1) ∧ w.cell? ⟨g, j * 8 + 2, none⟩ = some (.int .i64 (rd_T28 l (j : Int)).f2) ∧ w.cell? ⟨g, j * 8 + 3, none⟩ = some (.int .i64 (rd_T28 l (j : Int)).f3) ∧ w.cell? ⟨g, j * 8 + 4, none⟩ = some (.int .i64 (rd_T28 l (j : Int)).f4) ∧ w.cell? ⟨g, j * 8 + 5, none⟩ = some (.int .i64 (rd_T28 l (j : Int)).f5) ∧ w.cell? ⟨g, j * 8 + 6, none⟩ = some (.int .u64 (rd_T28 l (j : Int)).f6) ∧ w.cell? ⟨g, j * 8 + 7, none⟩ = some (.int .i64 (rd_T28 l (j : Int)).f7) := by
  obtain ⟨_, _, hC⟩ := Kd.R_reads' h
  obtain ⟨ad, ead, x0, x1, x2, x3, x4, x5, x6, x7⟩ := at_T28 hC (j : Int) (by omega) (by omega)
  obtain rfl := Option.some.inj ead
  rw [Int.toNat_natCast, add_zero] at x0 x1 x2 x3 x4 x5 x6 x7
  exact ⟨x0, x1, x2, x3, x4, x5, x6, x7⟩
set_option maxHeartbeats 8000000 in
set_option maxRecDepth 100000 in
theorem two.calls (a b : Int) (w : World) :
    Calls Try.prog 27 #[.int .u64 a, .int .u64 b] w fun e w' => ∃ v, e = .returned v ∧ Kd.R k28 28 w' w.heap.size (fun _ => True) v ((rawTwo a b).map bareX) ∧ Below w.heap.size w w' := by
  go_enter Try.func27, Try.ntmps27
  go_upto_region 2 with (first
    | ((with_reducible refine gate_dst (N := 15) rfl ?_); refine Kd.R_lit k28 (w0 := w) w.heap.size 28 rfl (N := 15) rfl (xs := rawTwo a b) (inner := (rawTwo a b).flatMap cells28) (ok := fun _ => True) (okp := fun _ => True) (by go_simp; exact ⟨rfl, rfl⟩) (reps28 _ _ _ _) (fun _ h => h) trivial (Below.refl _ _) (Nat.le_refl _) (by show 5 ≤ _; omega) ?_; intro v1 w1 hR1 hb1 hg1 hn1; obtain ⟨g, cg, rfl, hgb, hgl, hcg, cells1, hgh⟩ := R_form2 hR1 hn1; rw [show (rawTwo a b).length = 5 from rfl] at hR1 ⊢)
    | go_in)
  clear hgl hcg hgh cells1 hg1 hn1
  obtain ⟨X, hX⟩ : ∃ X, X = rawTwo a b := ⟨_, rfl⟩
  rw [← hX] at hR1
  have hXl : Aside0 (X.length = 5) := Aside0.mk (by rw [hX]; rfl)
  replace hX := Aside0.mk hX
  go_wp2
  go_loopw [18] (fun v18 wr' => ∃ j : Nat, v18 = .int .i64 j ∧ j ≤ 5 ∧ Kd.R k28 28 wr' w.heap.size (fun _ => True) (.slice (some ⟨g, 0, none⟩) 5 cg) (mixS X j) ∧ Below w.heap.size w wr')
    (fun v18 _ => 5 - (intOf v18).toNat)
  case atStart => exact ⟨0, rfl, by omega, by rw [mixS_zero]; exact hR1, hb1⟩
  case round =>
    clear hR1 hb1
    obtain ⟨j, rfl, hjL, hR, HB⟩ := hrel
    by_cases hj5 : j < 5
    · have hj : j < X.length := by rw [hXl.out]; exact hj5
      obtain ⟨hl1, hcg, hC⟩ := Kd.R_reads' hR
      obtain ⟨ad, ead, x0, x1, x2, x3, x4, x5, x6, x7⟩ := at_T28 hC (j : Int) (by omega) (by rw [mixS_len]; omega)
      obtain rfl := Option.some.inj ead
      have hadd := add_zero g
      rw [mixS_at X j hj, Int.toNat_natCast, hadd] at x0 x1 x2 x3 x4 x5 x6 x7
      dsimp only at x1 x2 x3 x4 x5 x6 x7
      have hset := mixS_set X j hj
      generalize X[j] = x at x0 x1 x2 x3 x4 x5 x6 x7 hset
      replace hset := Aside0.mk hset
      replace hl1 := Aside0.mk hl1
      replace hj := Aside0.mk hj
      have y0 := x0; have y1 := x1; have y2 := x2; have y3 := x3; have y4 := x4; have y5 := x5; have y6 := x6; have y7 := x7
      clear ead hadd hC
      go_upto_region 5 with go_in
      have e7 := heap_alloc_new wr (Obj.cells #[.int .i64 x.f0, .int .i64 x.f1, .int .i64 x.f2, .int .i64 x.f3, .int .i64 x.f4, .int .i64 x.f5, .int .u64 x.f6, .int .i64 x.f7] 28 (0, 0))
      have hb7 : Below wr.heap.size wr (wr.alloc (Obj.cells #[.int .i64 x.f0, .int .i64 x.f1, .int .i64 x.f2, .int .i64 x.f3, .int .i64 x.f4, .int .i64 x.f5, .int .u64 x.f6, .int .i64 x.f7] 28 (0, 0))) := below_alloc (Below.refl _ _) _
      generalize wr.alloc (Obj.cells #[.int .i64 x.f0, .int .i64 x.f1, .int .i64 x.f2, .int .i64 x.f3, .int .i64 x.f4, .int .i64 x.f5, .int .u64 x.f6, .int .i64 x.f7] 28 (0, 0)) = w7 at e7 hb7 ⊢
      have hR := Kd.R_below hR hb7
      have HB := HB.trans (hb7.mono HB.size)
      generalize wr.heap.size = B7 at e7 ⊢
      clear x0 x1 x2 x3 x4 x5 x6 x7 y0 y1 y2 y3 y4 y5 y6 y7 hb7
      have y0 : w7.cell? ⟨B7, 0, none⟩ = some (.int .i64 x.f0) := (blk_cell e7 0).trans rfl
      have y1 : w7.cell? ⟨B7, 1, none⟩ = some (.int .i64 x.f1) := (blk_cell e7 1).trans rfl
      have y2 : w7.cell? ⟨B7, 2, none⟩ = some (.int .i64 x.f2) := (blk_cell e7 2).trans rfl
      have y3 : w7.cell? ⟨B7, 3, none⟩ = some (.int .i64 x.f3) := (blk_cell e7 3).trans rfl
      have y4 : w7.cell? ⟨B7, 4, none⟩ = some (.int .i64 x.f4) := (blk_cell e7 4).trans rfl
      have y5 : w7.cell? ⟨B7, 5, none⟩ = some (.int .i64 x.f5) := (blk_cell e7 5).trans rfl
      have y6 : w7.cell? ⟨B7, 6, none⟩ = some (.int .u64 x.f6) := (blk_cell e7 6).trans rfl
      have y7 : w7.cell? ⟨B7, 7, none⟩ = some (.int .i64 x.f7) := (blk_cell e7 7).trans rfl
      have TB := bareX_calls x w7
      have hjm : j < (mixS X j).length := by rw [mixS_len]; exact hj.out
      go_upto_region 6 with (first
        | (go_at_call 10; refine TB.mono ?_; rintro e w8 ⟨rfl, hb8⟩; have hR := Kd.R_below hR hb8; have HB := HB.trans (hb8.mono HB.size); obtain ⟨cs, hcl, hcc, hMM⟩ := row28_at hR j hjm (bareX x); obtain ⟨x0, x1, x2, x3, x4, x5, x6, x7⟩ := row28_cells hR j hjm; obtain ⟨cur, hcur⟩ := Kd.R_typed hR g rfl; have f0 := blk_frozen hcur (j * 8); have f1 := blk_frozen hcur (j * 8 + 1); have f2 := blk_frozen hcur (j * 8 + 2); have f3 := blk_frozen hcur (j * 8 + 3); have f4 := blk_frozen hcur (j * 8 + 4); have f5 := blk_frozen hcur (j * 8 + 5); have f6 := blk_frozen hcur (j * 8 + 6); have f7 := blk_frozen hcur (j * 8 + 7))
        | go_in)
      obtain ⟨hrow, hgr⟩ := Kd.R_seg hR (j : Int) (by omega) (by omega) hcl hcc (Nat.le_refl 8) hMM (fun _ h => h.elim)
      have HB9 := HB.grown hgr HB.size (fun k hk => by have := Option.some.inj hk; omega)
      rw [Int.toNat_natCast, hset.out] at hrow
      rw [Int.toNat_natCast] at HB9
      rw [show (World.setCell (World.setCell (World.setCell (World.setCell (World.setCell (World.setCell (World.setCell (World.setCell w8 ⟨g, j * 8, none⟩ (.int .i64 (bareX x).f0)) ⟨g, j * 8 + 1, none⟩ (.int .i64 (bareX x).f1)) ⟨g, j * 8 + 2, none⟩ (.int .i64 (bareX x).f2)) ⟨g, j * 8 + 3, none⟩ (.int .i64 (bareX x).f3)) ⟨g, j * 8 + 4, none⟩ (.int .i64 (bareX x).f4)) ⟨g, j * 8 + 5, none⟩ (.int .i64 (bareX x).f5)) ⟨g, j * 8 + 6, none⟩ (.int .u64 (bareX x).f6)) ⟨g, j * 8 + 7, none⟩ (.int .i64 (bareX x).f7)) = w8.setCells g (j * 8 + 0) (cells28 (bareX x)) from rfl]
      have hrow' : Kd.R k28 28 (w8.setCells g (j * 8 + 0) (cells28 (bareX x))) w.heap.size (fun _ => True) (.slice (some ⟨g, 0, none⟩) 5 cg) (mixS X (j + 1)) := hrow
      have HB9' : Below w.heap.size w (w8.setCells g (j * 8 + 0) (cells28 (bareX x))) := HB9
      generalize w8.setCells g (j * 8 + 0) (cells28 (bareX x)) = w9 at hrow' HB9' ⊢
      clear hrow HB9 hgr hMM hcc hcl x0 x1 x2 x3 x4 x5 x6 x7 f0 f1 f2 f3 f4 f5 f6 f7 hcur y0 y1 y2 y3 y4 y5 y6 y7 e7 TB hR HB hb8
      go_wp2
      go_roundw
      case rel => exact ⟨j + 1, by first | rfl | go_num, by omega, hrow', HB9'⟩
      case measure => simp [intOf]; omega
    · have hjj : j = X.length := by rw [hXl.out]; omega
      have hR' : Kd.R k28 28 wr w.heap.size (fun _ => True) (.slice (some ⟨g, 0, none⟩) 5 cg) (X.map bareX) := by rw [← mixS_all, ← hjj]; exact hR
      replace hjj := Aside0.mk hjj
      go_wp2
      refine bodyPost_ret (v := .slice (some ⟨g, 0, none⟩) 5 cg) (by simp [results, Try.results27, go_sem, *]) rfl ⟨_, rfl, by rw [← hX.out]; exact hR', HB⟩
end Go.Proofs.Ytaenjbhhpdmhgaa.Tso
