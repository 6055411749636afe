/-
The statement EncodeAll: codes are their bytes one behind the other, and are read of them; a byte too few is none's. The law walked by hand, by the printed contracts of the functions that it calls. Condition: none beyond the given row's.
-/
import Derived.Test.YtnnedajhphkphaaRows
import Derived.Test.YtnnedajhphkphaaPureEncodeAll
import Derived.Test.YtnnedajhphkphaaOpens
import Derived.WalkKit
import Derived.ProofKit
import Derived.OpenShut
import Derived.ShutString
import Derived.ChangeOld
import Derived.Below
import Derived.SizedLaws
import Derived.Lib.SmallJoins
set_option linter.unusedSimpArgs false
set_option linter.unusedVariables false
namespace Go.Proofs.Ytnnedajhphkphaa.Pure
open Go.RowKit Go.Proofs.YtnnedajhphkphaaW.PrintWords Go.Proofs.YtnnedajhphkphaaW.PrintLast Go.Proofs.YtnnedajhphkphaaW.PrintMore Go.Proofs.Ytnnedajhphkphaa.Kit
open Go.Proofs.Ytnnedajhphkphaa.PEncodeAll
attribute [local go_sem] max2_int min2_int max_two min_two max_three min_three max_four min_four   -- for this text's walks alone
def mkX (x : S26) : S26 :=
  let p := makeS x.f0 x.f1 x.f2 x.f3 x.f4 x.f5 x.f6 x.f7
  ⟨p.1, p.2.1, p.2.2.1, p.2.2.2.1, p.2.2.2.2.1, p.2.2.2.2.2.1, p.2.2.2.2.2.2.1, p.2.2.2.2.2.2.2⟩
def c8 (x : S26) : List Value := [.int .i64 x.f0, .int .i64 x.f1, .int .i64 x.f2, .int .i64 x.f3, .int .i64 x.f4, .int .i64 x.f5, .int .u64 x.f6, .int .i64 x.f7]
def U64 (x : S26) : Prop := 0 ≤ x.f6 ∧ x.f6 ≤ 18446744073709551615
theorem mk_ok (x : S26) (h : U64 x) : Ok26 (mkX x) := make_ok x.f0 x.f1 x.f2 x.f3 x.f4 x.f5 x.f6 x.f7 h.1 h.2
theorem reps26 (w : World) (L : List S26) : Reps (k26.K w) 8 L (L.flatMap c8) := by
  have key : ∀ (L P : List S26), Reps (k26.K w) 8 P (P.flatMap c8) → Reps (k26.K w) 8 (P ++ L) ((P ++ L).flatMap c8) := by
    intro L
    induction L with
    | nil => intro P h; simpa using h
    | cons a L ih =>
      intro P h
      have := ih (P ++ [a]) (by rw [List.flatMap_append]; simpa [c8] using h.snoc (k26_mk w a) rfl)
      simpa using this
  exact key L [] (Reps.none _ _)
theorem c8_one (L : List S26) : ∀ u ∈ L.flatMap c8, u.oneCell' = true := by
  intro u hu
  obtain ⟨d, _, h⟩ := List.mem_flatMap.mp hu
  simp only [c8, List.mem_cons, List.not_mem_nil, or_false] at h
  rcases h with rfl | rfl | rfl | rfl | rfl | rfl | rfl | rfl <;> rfl
/-- A row of codes of one's own, as it is read. -/
theorem reads26 {w : World} {base : Nat} {v : Value} {L : List S26} (h : w.ownsRow base 26 8 v L.length (L.flatMap c8)) : ∃ A c, v = .slice A L.length c ∧ L.length ≤ c ∧ Kd.C k26 w A L.length L := by
  obtain ⟨A, c, rfl, hr⟩ := own_reads_row h (reps26 w L) rfl
  exact ⟨A, c, rfl, own_le h, hr⟩
theorem reads5 {w : World} {base : Nat} {v : Value} {b : List Int} (h : w.ownsRow base 5 1 v b.length (encs (Value.int .u8) b)) : ∃ A c, v = .slice A b.length c ∧ b.length ≤ c ∧ Kd.C (Kd.int .u8) w A b.length b := by
  obtain ⟨A, c, rfl, hr⟩ := own_reads_row h (Kd.reps_scalar b) rfl
  exact ⟨A, c, rfl, own_le h, hr⟩
theorem row_keep {w w' : World} {base e size n : Nat} {v : Value} {xs : List Value} (h : w.ownsRow base e size v n xs) (hb : Below w.heap.size w w') : w'.ownsRow base e size v n xs :=
  own_move h (fun k hk => hb.block k (h.lt k hk).2)
/-- .. and as Back wants it: the bytes from the i-th on. -/
theorem back_V {w : World} {base i : Nat} {A : Option Addr} {c : Nat} {b : List Int} (h : w.ownsRow base 5 1 (.slice A b.length c) b.length (encs (Value.int .u8) b)) (hi : i ≤ b.length) :
    Kd.V (Kd.int .u8) 5 w w.heap.size (fun k => k < w.heap.size) (.slice (if c = i then A else A.map (·.add (i * 1))) (b.drop i).length (c - i)) (b.drop i) := by
  refine ⟨_, _, rfl, by rw [List.length_drop]; have := own_le h; omega, fun W' hW => ?_⟩
  have h' : W'.ownsRow base 5 1 (.slice A b.length c) b.length (encs (Value.int .u8) b) := own_move h (fun k hk => hW k (h.lt k hk).2 (h.lt k hk).2)
  obtain ⟨A', c', e, hle, hC⟩ := reads5 h'
  cases e
  exact Kd.C_drop (m := i) (c := c) hC hi hle
theorem back_V0 {w : World} {base : Nat} {A : Option Addr} {c : Nat} {b : List Int} (h : w.ownsRow base 5 1 (.slice A b.length c) b.length (encs (Value.int .u8) b)) :
    Kd.V (Kd.int .u8) 5 w w.heap.size (fun k => k < w.heap.size) (.slice A b.length c) b := by
  refine ⟨_, _, rfl, own_le h, fun W' hW => ?_⟩
  have h' : W'.ownsRow base 5 1 (.slice A b.length c) b.length (encs (Value.int .u8) b) := own_move h (fun k hk => hW k (h.lt k hk).2 (h.lt k hk).2)
  obtain ⟨A', c', e, hle, hC⟩ := reads5 h'
  cases e
  exact hC
theorem info5a : (Try.prog.info? 5).map (fun i => (i.zero, i.size, i.bytes)) = some (some (.int .u8 0), 1, 1) := by kernel_rfl
theorem make_some (x : S26) : ∃ k, tautochronelaw20_Make.f k x.f0 x.f1 x.f2 x.f3 x.f4 x.f5 x.f6 x.f7 = some ((mkX x).f0, (mkX x).f1, (mkX x).f2, (mkX x).f3, (mkX x).f4, (mkX x).f5, (mkX x).f6, (mkX x).f7) := Ev.rounds (make_ev ..)
theorem bytes_some (x : S26) (h : Ok26 x) : ∃ k, tautochronelaw20_bytes.f k x.f0 x.f1 x.f2 x.f3 x.f4 x.f5 x.f6 x.f7 = some (encX x) := Ev.rounds (lawbytes_ev h)
theorem may_some (x : S26) : ∃ k, tautochronelaw20_may.f k x.f0 x.f1 x.f2 x.f3 x.f4 x.f5 x.f6 x.f7 = some (decide (okX x)) := Ev.rounds (lawmay_ev ..)
theorem awake_some9 : ∃ k, tautochronelaw20_awake.f k = some true := Ev.rounds awake_ev
set_option maxHeartbeats 2000000 in
set_option maxRecDepth 100000 in
theorem all.calls (A0 : Option Addr) (c0 : Nat) (xs : List S26) (w : World) (hr0 : Kd.C k26 w A0 xs.length xs) (hc0 : xs.length ≤ c0) (hu : ∀ x ∈ xs, U64 x) (hl : xs.length ≤ 2199023255488) :
    Calls Try.prog 7 #[.slice A0 xs.length c0] w fun e w' => e = .returned (.bool true) ∧ Below w.heap.size w w' := by
  obtain ⟨ka, hka⟩ := awake_some9
  go_enter Try.func7, Try.ntmps7
  go_upto_region 6 with (first
    | (go_at_call 8; refine (tautochronelaw20_awake.calls ka true w hka).mono ?_; rintro e w1 ⟨rfl, hb1⟩)
    | go_in)
  go_wp2
  go_loopw [3, 4, 5, 20] (fun v3 v4 v5 i wr => ∃ q : Nat, q ≤ xs.length ∧ i = .int .i64 q ∧ wr.ownsRow w.heap.size 26 8 v3 q (((xs.take q).map mkX).flatMap c8) ∧ wr.ownsRow w.heap.size 5 1 v4 (16 * q) (encs (Value.int .u8) (((xs.take q).map mkX).flatMap encX)) ∧ (∃ b5, v5 = .bool b5 ∧ Aside0 (b5 = decide (∀ x ∈ xs.take q, okX x))) ∧ Below w.heap.size w wr)
    (fun _ _ _ i _ => xs.length - (intOf i).toNat)
  case atStart => exact ⟨0, by omega, rfl, World.ownsRow_nil _ _ _ _, World.ownsRow_nil _ _ _ _, ⟨true, rfl, ⟨by simp⟩⟩, hb1⟩
  case round =>
    clear hb1
    obtain ⟨q, hq, rfl, hcs, hwant, ⟨b5, rfl, hb5⟩, HB⟩ := hrel
    by_cases hqn : q < xs.length
    · obtain ⟨ad, rfl, x0, x1, x2, x3, x4, x5, x6, x7⟩ := at_T26 hr0 q (by omega) (by omega)
      rw [rdT_at xs q hqn, Int.toNat_natCast] at x0 x1 x2 x3 x4 x5 x6 x7
      obtain ⟨x, hx⟩ : ∃ x, x = xs[q] := ⟨_, rfl⟩
      rw [← hx] at x0 x1 x2 x3 x4 x5 x6 x7
      have hxu : U64 x := by rw [hx]; exact hu _ (List.getElem_mem hqn)
      have X0 := (HB.cell (World.block_lt_of_cell? w _ x0)).trans x0
      have X1 := (HB.cell (World.block_lt_of_cell? w _ x1)).trans x1
      have X2 := (HB.cell (World.block_lt_of_cell? w _ x2)).trans x2
      have X3 := (HB.cell (World.block_lt_of_cell? w _ x3)).trans x3
      have X4 := (HB.cell (World.block_lt_of_cell? w _ x4)).trans x4
      have X5 := (HB.cell (World.block_lt_of_cell? w _ x5)).trans x5
      have X6 := (HB.cell (World.block_lt_of_cell? w _ x6)).trans x6
      have X7 := (HB.cell (World.block_lt_of_cell? w _ x7)).trans x7
      have htk : xs.take (q + 1) = xs.take q ++ [x] := by rw [List.take_add_one, List.getElem?_eq_getElem hqn, hx]; rfl
      replace htk := Aside0.mk htk
      replace hx := Aside0.mk hx
      obtain ⟨km, hkm⟩ := make_some x
      obtain ⟨kb, hkb⟩ := bytes_some (mkX x) (mk_ok x hxu)
      obtain ⟨ky, hky⟩ := may_some x
      generalize hcsL : (xs.take q).map mkX = csL at hcs hwant
      go_upto_region 9 with go_in
      have e7 : (wr.alloc (Obj.cells #[.int .i64 x.f0, .int .i64 x.f1, .int .i64 x.f2, .int .i64 x.f3, .int .i64 x.f4, .int .i64 x.f5, .int .u64 x.f6, .int .i64 x.f7] 26 (0, 0))).heap[wr.heap.size]? = some (Obj.cells #[.int .i64 x.f0, .int .i64 x.f1, .int .i64 x.f2, .int .i64 x.f3, .int .i64 x.f4, .int .i64 x.f5, .int .u64 x.f6, .int .i64 x.f7] 26 (0, 0)) := heap_alloc_new wr _
      have hb7 : Below wr.heap.size wr (wr.alloc (Obj.cells #[.int .i64 x.f0, .int .i64 x.f1, .int .i64 x.f2, .int .i64 x.f3, .int .i64 x.f4, .int .i64 x.f5, .int .u64 x.f6, .int .i64 x.f7] 26 (0, 0))) := (Below.refl _ _).alloc (Nat.le_refl _) _
      have hn3 : ∀ k, u3.ownBlock = some k → k < wr.heap.size := fun k hk => (hcs.lt k hk).2
      generalize wr.alloc (Obj.cells #[.int .i64 x.f0, .int .i64 x.f1, .int .i64 x.f2, .int .i64 x.f3, .int .i64 x.f4, .int .i64 x.f5, .int .u64 x.f6, .int .i64 x.f7] 26 (0, 0)) = w7 at e7 hb7 ⊢
      have hcs := row_keep hcs hb7
      have hwant := row_keep hwant hb7
      have HB := HB.trans (hb7.mono HB.size)
      generalize wr.heap.size = B7 at e7 hn3 ⊢
      clear X0 X1 X2 X3 X4 X5 X6 X7 hb7
      have l7 : B7 < w7.heap.size := (Array.getElem?_eq_some_iff.mp e7).1
      have y0 : w7.cell? ⟨B7, 0, none⟩ = some (.int .i64 x.f0) := by simp [World.cell?, e7]
      have y1 : w7.cell? ⟨B7, 1, none⟩ = some (.int .i64 x.f1) := by simp [World.cell?, e7]
      have y2 : w7.cell? ⟨B7, 2, none⟩ = some (.int .i64 x.f2) := by simp [World.cell?, e7]
      have y3 : w7.cell? ⟨B7, 3, none⟩ = some (.int .i64 x.f3) := by simp [World.cell?, e7]
      have y4 : w7.cell? ⟨B7, 4, none⟩ = some (.int .i64 x.f4) := by simp [World.cell?, e7]
      have y5 : w7.cell? ⟨B7, 5, none⟩ = some (.int .i64 x.f5) := by simp [World.cell?, e7]
      have y6 : w7.cell? ⟨B7, 6, none⟩ = some (.int .u64 x.f6) := by simp [World.cell?, e7]
      have y7 : w7.cell? ⟨B7, 7, none⟩ = some (.int .i64 x.f7) := by simp [World.cell?, e7]
      have hqL : csL.length = q := by rw [← hcsL, List.length_map, List.length_take]; omega
      go_upto_region 10 with (first
        | (go_at_call 9; refine (tautochronelaw20_Make.calls km x.f0 x.f1 x.f2 x.f3 x.f4 x.f5 x.f6 x.f7 (mkX x).f0 (mkX x).f1 (mkX x).f2 (mkX x).f3 (mkX x).f4 (mkX x).f5 (mkX x).f6 (mkX x).f7 _ hkm).mono ?_; rintro e w9 ⟨rfl, hb9⟩; have hcs9 := row_keep hcs hb9; have HB9 := HB.trans (hb9.mono HB.size))
        | (at_builtin; go_loud (refine print_append_cells (w0 := w) w.heap.size rfl (.tmp 24) (.tmp 27) 39 26 (.agg #[.int .i64 0, .int .i64 0, .int .i64 0, .int .i64 0, .int .i64 0, .int .i64 0, .int .u64 0, .int .i64 0]) 8 64 rfl Try.underlying39 info26 rfl (by decide) (by decide) u3 q (csL.flatMap c8) (c8 (mkX x)) rfl rfl rfl (by intro u hu; exact c8_one [mkX x] u (by simpa using hu)) hcs9 HB9 HB9.size (by omega) ?_; intro v10 w10 hcs10 hb10 hg10 ha10; obtain ⟨A10, cp10, rfl⟩ := own_slice hcs10))
        | go_in)
      have hwant9 := row_keep hwant hb9
      have hwant10 : w10.ownsRow w.heap.size 5 1 u4 (16 * q) (encs (Value.int .u8) (csL.flatMap encX)) := by
        refine own_move hwant9 (fun k hk => hg10.block k (hwant9.lt k hk).2 ?_)
        intro e
        obtain ⟨c1, h1⟩ := own_typed hwant9 k hk
        obtain ⟨c2, h2⟩ := own_typed hcs9 k e.symm
        rw [h1] at h2; cases h2
      have e10 : w10.heap[B7]? = some (Obj.cells #[.int .i64 x.f0, .int .i64 x.f1, .int .i64 x.f2, .int .i64 x.f3, .int .i64 x.f4, .int .i64 x.f5, .int .u64 x.f6, .int .i64 x.f7] 26 (0, 0)) := by
        refine (hg10.block B7 (Nat.lt_of_lt_of_le l7 hb9.size) (fun e => ?_)).trans ((hb9.block B7 l7).trans e7)
        exact absurd (hn3 B7 e.symm) (Nat.lt_irrefl _)
      clear y0 y1 y2 y3 y4 y5 y6 y7 e7 l7 hg10 ha10 hn3 hwant hwant9 hcs hcs9 HB HB9 hb9
      have l10 : B7 < w10.heap.size := (Array.getElem?_eq_some_iff.mp e10).1
      have y0 : w10.cell? ⟨B7, 0, none⟩ = some (.int .i64 x.f0) := by simp [World.cell?, e10]
      have y1 : w10.cell? ⟨B7, 1, none⟩ = some (.int .i64 x.f1) := by simp [World.cell?, e10]
      have y2 : w10.cell? ⟨B7, 2, none⟩ = some (.int .i64 x.f2) := by simp [World.cell?, e10]
      have y3 : w10.cell? ⟨B7, 3, none⟩ = some (.int .i64 x.f3) := by simp [World.cell?, e10]
      have y4 : w10.cell? ⟨B7, 4, none⟩ = some (.int .i64 x.f4) := by simp [World.cell?, e10]
      have y5 : w10.cell? ⟨B7, 5, none⟩ = some (.int .i64 x.f5) := by simp [World.cell?, e10]
      have y6 : w10.cell? ⟨B7, 6, none⟩ = some (.int .u64 x.f6) := by simp [World.cell?, e10]
      have y7 : w10.cell? ⟨B7, 7, none⟩ = some (.int .i64 x.f7) := by simp [World.cell?, e10]
      obtain ⟨i5, hi5, hz5⟩ := Option.map_eq_some_iff.1 info5a
      simp only [Prod.mk.injEq] at hz5
      obtain ⟨hz50, hz51, hz52⟩ := hz5
      go_upto_region 11 with (first
        | (go_at_call 9; refine (tautochronelaw20_Make.calls km x.f0 x.f1 x.f2 x.f3 x.f4 x.f5 x.f6 x.f7 (mkX x).f0 (mkX x).f1 (mkX x).f2 (mkX x).f3 (mkX x).f4 (mkX x).f5 (mkX x).f6 (mkX x).f7 _ hkm).mono ?_; rintro e w11 ⟨rfl, hb11⟩; have hwant11 := row_keep hwant10 hb11; have HB11 := hb10.trans (hb11.mono hb10.size))
        | (go_at_call 15; refine (tautochronelaw20_bytes.calls kb (mkX x).f0 (mkX x).f1 (mkX x).f2 (mkX x).f3 (mkX x).f4 (mkX x).f5 (mkX x).f6 (mkX x).f7 (encX (mkX x)) _ hkb).mono ?_; rintro e w12 ⟨vb, rfl, hR, hb12⟩; have hvb := Kd.own_of_R hR; have hwant12 := row_keep hwant11 hb12; have HB12 := HB11.trans (hb12.mono HB11.size); obtain ⟨_, ⟨_, h16⟩ | ⟨gb, capb, curb, rfl, _⟩⟩ := id hvb; (exact absurd h16 (by rw [encX_len]; omega)))
        | (at_builtin; go_loud (refine wpList_append_own_at (P := Try.prog) w12 rfl (.tmp 29) (.tmp 32) 30 rfl w.heap.size 5 i5 (.int .u8 0) 1 1 Try.underlying30 hi5 hz50 hz51 hz52 rfl (by decide) u4 (16 * q) (encs (Value.int .u8) (csL.flatMap encX)) rfl hwant12 ⟨gb, 0, none⟩ 16 capb (encs (Value.int .u8) (encX (mkX x))) rfl (by rfl) (hvb.cells (g := gb) rfl) (by intro u hu; obtain ⟨y, _, rfl⟩ := List.mem_map.mp hu; rfl) (by simp only [maxLen]; omega) (by omega) HB12.size ?_; intro v13 w13 hwant13 hg13 _ ha13; obtain ⟨A13, cp13, rfl⟩ := own_slice hwant13))
        | go_in)
      have hcs12 := row_keep (row_keep hcs10 hb11) hb12
      have hcs13 : w13.ownsRow w.heap.size 26 8 (.slice A10 (q + 1) cp10) (q + 1) (csL.flatMap c8 ++ c8 (mkX x)) := by
        refine own_move hcs12 (fun k hk => hg13.block k (hcs12.lt k hk).2 ?_)
        intro e
        obtain ⟨c1, h1⟩ := own_typed hcs12 k hk
        obtain ⟨c2, h2⟩ := own_typed hwant12 k e.symm
        rw [h1] at h2; cases h2
      have e12 : w12.heap[B7]? = some (Obj.cells #[.int .i64 x.f0, .int .i64 x.f1, .int .i64 x.f2, .int .i64 x.f3, .int .i64 x.f4, .int .i64 x.f5, .int .u64 x.f6, .int .i64 x.f7] 26 (0, 0)) := (hb12.block B7 (Nat.lt_of_lt_of_le l10 hb11.size)).trans ((hb11.block B7 l10).trans e10)
      have e13 : w13.heap[B7]? = some (Obj.cells #[.int .i64 x.f0, .int .i64 x.f1, .int .i64 x.f2, .int .i64 x.f3, .int .i64 x.f4, .int .i64 x.f5, .int .u64 x.f6, .int .i64 x.f7] 26 (0, 0)) := by
        refine (hg13.block B7 (Array.getElem?_eq_some_iff.mp e12).1 (fun e => ?_)).trans e12
        obtain ⟨c2, h2⟩ := own_typed hwant12 B7 e.symm
        rw [e12] at h2; cases h2
      have HB13 : Below w.heap.size w w13 := HB12.grown hg13 HB12.size (fun k hk => (hwant12.lt k hk).1)
      have htm : (xs.take (q + 1)).map mkX = csL ++ [mkX x] := by rw [htk.out, List.map_append, hcsL]; rfl
      have hcsE : w13.ownsRow w.heap.size 26 8 (.slice A10 (q + 1) cp10) (q + 1) (((xs.take (q + 1)).map mkX).flatMap c8) := by
        rw [htm, List.flatMap_append]; simpa using hcs13
      have hwantE : w13.ownsRow w.heap.size 5 1 (.slice A13 (16 * q + 16) cp13) (16 * (q + 1)) (encs (Value.int .u8) (((xs.take (q + 1)).map mkX).flatMap encX)) := by
        rw [htm, List.flatMap_append, show 16 * (q + 1) = 16 * q + 16 by omega]; simpa [encs] using hwant13
      have hall : (∀ y ∈ xs.take (q + 1), okX y) ↔ (∀ y ∈ xs.take q, okX y) ∧ okX x := by
        rw [htk.out]
        constructor
        · intro h; exact ⟨fun y hy => h y (List.mem_append_left _ hy), h x (by simp)⟩
        · rintro ⟨h1, h2⟩ y hy
          rcases List.mem_append.mp hy with hy | hy
          · exact h1 y hy
          · rw [List.mem_singleton.mp hy]; exact h2
      have z0 : w13.cell? ⟨B7, 0, none⟩ = some (.int .i64 x.f0) := by simp [World.cell?, e13]
      have z1 : w13.cell? ⟨B7, 1, none⟩ = some (.int .i64 x.f1) := by simp [World.cell?, e13]
      have z2 : w13.cell? ⟨B7, 2, none⟩ = some (.int .i64 x.f2) := by simp [World.cell?, e13]
      have z3 : w13.cell? ⟨B7, 3, none⟩ = some (.int .i64 x.f3) := by simp [World.cell?, e13]
      have z4 : w13.cell? ⟨B7, 4, none⟩ = some (.int .i64 x.f4) := by simp [World.cell?, e13]
      have z5 : w13.cell? ⟨B7, 5, none⟩ = some (.int .i64 x.f5) := by simp [World.cell?, e13]
      have z6 : w13.cell? ⟨B7, 6, none⟩ = some (.int .u64 x.f6) := by simp [World.cell?, e13]
      have z7 : w13.cell? ⟨B7, 7, none⟩ = some (.int .i64 x.f7) := by simp [World.cell?, e13]
      clear y0 y1 y2 y3 y4 y5 y6 y7 e10 e12 e13 hcs10 hcs12 hcs13 hwant10 hwant11 hwant12 hwant13 hvb hR hb10 hb11 hb12 HB11 HB12 hg13 ha13 l10 htm
      obtain ⟨bx, hbx⟩ : ∃ b, b = decide (okX x) := ⟨_, rfl⟩
      rw [← hbx] at hky
      replace hall := Aside0.mk hall
      replace hbx := Aside0.mk hbx
      cases b5 with
      | true =>
        go_wp2_with (first
          | (go_at_call 13; refine (tautochronelaw20_may.calls ky x.f0 x.f1 x.f2 x.f3 x.f4 x.f5 x.f6 x.f7 bx _ hky).mono ?_; rintro e w14 ⟨rfl, hb14⟩)
          | go_in)
        go_roundw
        case rel => exact ⟨q + 1, by omega, by first | rfl | go_num, row_keep hcsE hb14, row_keep hwantE hb14, ⟨bx, rfl, ⟨by rw [hbx.out, decide_eq_decide, hall.out]; exact ⟨fun h => ⟨of_decide_eq_true hb5.out.symm, h⟩, fun h => h.2⟩⟩⟩, HB13.trans (hb14.mono HB13.size)⟩
        case measure => simp [intOf]; omega
      | false =>
        go_wp2
        go_roundw
        case rel => exact ⟨q + 1, by omega, by first | rfl | go_num, hcsE, hwantE, ⟨false, rfl, ⟨by rw [eq_comm, decide_eq_false_iff_not, hall.out]; exact fun h => of_decide_eq_false hb5.out.symm h.1⟩⟩, HB13⟩
        case measure => simp [intOf]; omega
    · obtain rfl : q = xs.length := by omega
      rw [List.take_length] at hcs hwant hb5
      obtain ⟨csL, hcsL⟩ : ∃ L, L = xs.map mkX := ⟨_, rfl⟩
      rw [← hcsL] at hcs hwant
      obtain ⟨W, hW⟩ : ∃ W, W = csL.flatMap encX := ⟨_, rfl⟩
      rw [← hW] at hwant
      have hn : xs.length = csL.length := by rw [hcsL, List.length_map]
      have hWl : W.length = 16 * csL.length := by rw [hW, flat_lenX]
      have hnl : csL.length ≤ 2199023255488 := by omega
      rw [hn] at hcs
      rw [hn, ← hWl] at hwant
      have hok26 : ∀ x ∈ csL, Ok26 x := by
        intro y hy
        rw [hcsL] at hy
        obtain ⟨x, hx, rfl⟩ := List.mem_map.mp hy
        exact mk_ok x (hu x hx)
      obtain ⟨k1, hk1⟩ : ∃ k, encode_All.f k csL = some (W, true) := by
        have := all_ev csL (by omega)
        have ha : ∀ x ∈ csL, okX x := fun x hx => (hok26 x hx).may
        rw [if_pos ha, ← hW] at this
        exact Ev.rounds this
      obtain ⟨rr, k2, hk2⟩ : ∃ rr k, encode_All.f k xs = some (rr, b5) := by
        have := all_ev xs (by omega)
        rw [hb5.out]
        by_cases hc : ∀ x ∈ xs, okX x
        · rw [if_pos hc] at this; rw [decide_eq_true hc]; exact ⟨_, Ev.rounds this⟩
        · rw [if_neg hc] at this; rw [decide_eq_false hc]; exact ⟨_, Ev.rounds this⟩
      obtain ⟨k3, hk3⟩ : ∃ k, encode_Back.f k W = some (csL, true) := by
        have := back_ev csL (by omega) hok26
        rw [← hW] at this
        exact Ev.rounds this
      obtain ⟨k4, hk4⟩ : ∃ k, tautochronelaw15_Equal.f k csL csL = some true := Ev.rounds (eq_ev csL (by omega))
      have hWb : ∀ x ∈ W, Byte x := by
        intro y hy
        rw [hW] at hy
        obtain ⟨x, hx, hy⟩ := List.mem_flatMap.mp hy
        exact enc_byte _ _ _ _ _ _ _ _ y hy
      obtain ⟨k5, hk5⟩ : ∃ k, W.length ≠ 0 → encode_Back.f k (W.drop 1) = some ([], false) := by
        by_cases hz : W.length = 0
        · exact ⟨0, fun h => absurd hz h⟩
        · have := back_short (W.drop 1).length (W.drop 1) [] (Nat.le_refl _) (fun x hx => hWb x (List.mem_of_mem_drop hx)) (by rw [List.length_drop]; omega) (by rw [List.length_drop, List.length_nil]; omega)
          exact ⟨_, fun _ => (Ev.rounds this).choose_spec⟩
      replace hb5 := Aside0.mk hb5.out
      replace hu := Aside0.mk hu
      replace hok26 := Aside0.mk hok26
      replace hWb := Aside0.mk hWb
      replace hcsL := Aside0.mk hcsL
      replace hW := Aside0.mk hW
      obtain ⟨A3, c3, rfl, hle3, hC3⟩ := reads26 hcs
      obtain ⟨A4, c4, rfl, hle4, hC4⟩ := reads5 hwant
      have hr00 := Kd.C_below hr0 (HB.mono (Nat.le_refl _))
      replace hn := Aside0.mk hn
      replace hWl := Aside0.mk hWl
      have T1 := encode_All.calls k1 A3 c3 csL W true wr hC3 hle3 hk1
      go_upto_region 14 with (first
        | (go_at_call 17; refine T1.mono ?_; rintro e wa ⟨va, rfl, hRa, hba⟩)
        | go_in)
      clear T1
      have T2 := encode_All.calls k2 A0 c0 xs rr b5 wa (Kd.C_below hr00 hba) hc0 hk2
      go_upto_region 15 with (first
        | (go_at_call 17; refine T2.mono ?_; rintro e wb ⟨vb, rfl, hRb, hbb⟩)
        | go_in)
      clear T2
      have T3 := encode_Back.calls k3 (fun k => k < wb.heap.size) A4 c4 W csL true wb (back_V0 (row_keep (row_keep hwant hba) hbb)) hk3
      go_upto_region 16 with (first
        | (go_at_call 18; refine T3.mono ?_; rintro e wc ⟨vc, rfl, hRc, hbc⟩)
        | go_in)
      clear T3
      have hbaw := hba.mono (Nat.le_refl _)
      have HBc : Below w.heap.size w wc := ((HB.trans (hba.mono HB.size)).trans (hbb.mono (HB.trans (hba.mono HB.size)).size)).trans (hbc.mono ((HB.trans (hba.mono HB.size)).trans (hbb.mono (HB.trans (hba.mono HB.size)).size)).size)
      have hwantc := row_keep (row_keep (row_keep hwant hba) hbb) hbc
      have hcv0 := own_string (P := Try.prog) Try.underlying30 Try.underlying5 Try.underlying9 (Kd.own_of_R (Kd.R_below (Kd.R_below hRa hbb) hbc))
      have hcv1 := own_string (P := Try.prog) Try.underlying30 Try.underlying5 Try.underlying9 hwantc
      obtain ⟨A5, c5, rfl, hle5, hC5⟩ := Kd.R_reads hRc
      have hC3c := Kd.C_below (Kd.C_below (Kd.C_below hC3 hba) hbb) hbc
      have T4 := fun (wx : World) (hd : Below wc.heap.size wc wx) => tautochronelaw15_Equal.calls k4 A5 c5 csL A3 c3 csL true wx (Kd.C_below hC5 hd) hle5 (Kd.C_below hC3c hd) hle3 hk4
      go_upto_region 18 with (first
        | (go_at_call 19; refine (T4 wc (Below.refl _ _)).mono ?_; rintro e wd ⟨rfl, hbd⟩)
        | go_in)
      clear T4 hcv0 hcv1 hC5 hC3c hRa hRb hRc
      have hwantd := row_keep hwantc (hbd.below)
      have HBd := HBc.trans (hbd.below.mono HBc.size)
      by_cases hz : W.length = 0
      · have hz' : (W.length : Int) = 0 := by omega
        go_wp2
        refine bodyPost_ret (v := .bool true) (by simp [results, Try.results7, go_sem]) rfl ⟨rfl, HBd⟩
      · have hk5' := hk5 hz
        obtain ⟨i5, hi5, hz5⟩ := Option.map_eq_some_iff.1 info5a
        simp only [Prod.mk.injEq] at hz5
        obtain ⟨Ad, hAd⟩ : ∃ Ad, Ad = if c4 = 1 then A4 else A4.map (·.add (1 * 1)) := ⟨_, rfl⟩
        obtain ⟨D, hD⟩ : ∃ D, D = W.drop 1 := ⟨_, rfl⟩
        have hV := back_V (i := 1) hwantd (by omega)
        rw [← hAd, ← hD] at hV
        rw [← hD] at hk5'
        have hcut : ∀ wx : World, (Instr.slice 30 (.slice A4 W.length c4) (some (.int .i64 1)) none none).run Try.prog wx = .ok (.slice Ad D.length (c4 - 1)) wx := by
          intro wx
          have := cut_from (P := Try.prog) 30 5 .i64 Try.underlying30 hi5 1 hz5.2.1 A4 W.length c4 1 (by omega) (by omega) wx
          rw [this, hAd, hD, List.length_drop]
          rfl
        have T5 := encode_Back.calls k5 (fun k => k < wd.heap.size) Ad (c4 - 1) D [] false wd hV hk5'
        replace hD := Aside0.mk hD
        clear hk5
        replace hAd := Aside0.mk hAd
        go_upto_region 21 with (first
          | (go_at_call 18; refine T5.mono ?_; rintro e we ⟨ve, rfl, hRe, hbe⟩)
          | go_in)
        obtain ⟨Ae, ce, rfl, _, _⟩ := Kd.R_reads hRe
        go_wp2
        refine bodyPost_ret (v := .bool true) (by simp [results, Try.results7, go_sem]) rfl ⟨rfl, HBd.trans (hbe.mono HBd.size)⟩
end Go.Proofs.Ytnnedajhphkphaa.Pure
namespace Go.Proofs.Ytnnedajhphkphaa.encodeAllRow
open Go.ChangeShapes Go.WideShapes Go.ChangeAt Go.RowKit Go.Joins Go.Proofs.YtnnedajhphkphaaW.PrintWords
open Go.Proofs.Ytnnedajhphkphaa.PEncodeAll
open Go.ChangeMaps (open_string shut_string)
set_option linter.unusedVariables false
set_option linter.unusedSimpArgs false
def wf26 (x : S26) : Prop := (Lit.int .i64 x.f0).wf = true ∧ (Lit.int .i64 x.f1).wf = true ∧ (Lit.int .i64 x.f2).wf = true ∧ (Lit.int .i64 x.f3).wf = true ∧ (Lit.int .i64 x.f4).wf = true ∧ (Lit.int .i64 x.f5).wf = true ∧ (Lit.int .u64 x.f6).wf = true ∧ (Lit.int .i64 x.f7).wf = true
theorem o26 : Opens.Opens Try.prog 26 k26 wf26 :=
  Opens.imp (Opens.iso (Opens.struct Try.underlying26 (by kernel_rfl) (Opens.cons (Opens.int Try.underlying22 (by kernel_rfl)) rfl (Opens.cons (Opens.int Try.underlying23 (by kernel_rfl)) rfl (Opens.cons (Opens.int Try.underlying3 (by kernel_rfl)) rfl (Opens.cons (Opens.int Try.underlying3 (by kernel_rfl)) rfl (Opens.cons (Opens.int Try.underlying3 (by kernel_rfl)) rfl (Opens.cons (Opens.int Try.underlying3 (by kernel_rfl)) rfl (Opens.cons (Opens.int Try.underlying24 (by kernel_rfl)) rfl (Opens.last (Opens.int Try.underlying3 (by kernel_rfl)) rfl rfl))))))))) (fun x : S26 => (x.f0, x.f1, x.f2, x.f3, x.f4, x.f5, x.f6, x.f7)) (fun p => ⟨p.1, p.2.1, p.2.2.1, p.2.2.2.1, p.2.2.2.2.1, p.2.2.2.2.2.1, p.2.2.2.2.2.2.1, p.2.2.2.2.2.2.2⟩) (fun _ => rfl)) (fun _ h => h)
theorem own : ownKnob Try.prog.godebug = none := by kernel_rfl
theorem laidOut : laidOutB Try.prog = true := by kernel_rfl
set_option maxRecDepth 100000 in
theorem lifted (os : Os) (started : os.Started) (H : Type) (enc : TypeId × Value → H) :
    ReturnsInHanded {} Try.checked os 7 .any (Rows.encodeAllSpec.pre6 enc Try.prog Try.f7 Rows.encodeAllRow.domain false) (Rows.encodeAllSpec.post enc Try.prog Try.f7 false true false false) := by
  refine returnsInHanded_of_change_sized (C := Try.checked) own started (by kernel_rfl) Try.func7
    (ChangeSpec.witness6 (enc := enc) (C := Try.checked) false ⟨#[], #[.slice none 0 0], []⟩ 8 (by kernel_rfl) (by kernel_rfl) (by kernel_rfl) (by kernel_rfl)) ?_
  intro W base args ds gs before hval0 hW hcnd hsz0 _
  have hsz : (DataW.weightsEach Try.prog (Try.f7.params.toList ++ Rows.encodeAllSpec.plain.varTypes Try.prog) (ds ++ gs)).all (· ≤ reachBytes) = true := hsz0
  have hval : ∀ (j : Nat) t v, Try.f7.params[j]? = some t → args[j]? = some v → Value.okWide Try.prog W .any base t v := hval0
  have hW' := hW
  obtain ⟨p, q, hA0, hV, rfl, hfz, hnd⟩ := hW
  have hA : DataW.TrodAll enc Try.prog W 0 (fun _ => true) true Try.f7.params.toList args.toList ds p := hA0
  rw [Try.params7] at hA hval hsz
  obtain ⟨v0, vs0, d0, ds0, p0, q0, hargs, rfl, rfl, h0, r0⟩ := trodAll_cons hA
  obtain ⟨rfl, rfl, rfl⟩ := trodAll_nil r0
  obtain rfl : args = #[v0] := by cases args; simp_all
  obtain ⟨rfl, rfl⟩ := trodVars_none hV
  obtain ⟨A0, len0, cap0, rfl⟩ := okWide_slice Try.underlying39 (hval 0 39 v0 rfl rfl)
  have k0 := h0
  have lt0 : ∀ x ∈ p0, x.block < W.heap.size := by obtain ⟨m, hm⟩ := k0; exact DataW.trod_lt m _ _ _ hm
  obtain ⟨l0, hl0, hcap0, hm0, hC0, hw0⟩ : ∃ xs : List S26, xs.length = len0 ∧ len0 ≤ cap0 ∧ len0 ≤ maxLen ∧ Kd.C k26 W A0 len0 xs ∧ ∀ x ∈ xs, wf26 x := by
    obtain ⟨fuel, hf⟩ := h0
    exact Opens.reads Try.underlying39 o26 (by simpa [Value.cells] using hf)
  have y0 : len0 * 64 ≤ 140737488351232 := Opens.sized hsz (j := 0) (t := 39) rfl rfl Try.underlying39 (by kernel_rfl) h0
  subst hl0
  clear hA0 hval0 hsz0 hsz
  refine (Pure.all.calls A0 cap0 l0 W hC0 hcap0 (fun x hx => Kit.wf_bounds_u64 (hw0 x hx).2.2.2.2.2.2.1) (by omega)).mono fun e W' ⟨he, bel0⟩ => ?_
  have bel : Below W.heap.size W W' := bel0
  subst he
  exact ⟨_, rfl, _, _, _, [], _, [], hW', trodAll_mk1 (shut_bool Try.underlying4 _), (trodAll_cons_mk (Below.trod laidOut (by kernel_rfl) (of_decide_eq_true (by kernel_rfl)) k0 bel lt0) trodAll_mk0), rfl, bel.frame _, fun h => by cases h⟩
theorem over : Rows.encodeAllRow.holds Try.pinned (OpenSpec.ofChange Rows.encodeAllSpec) :=
  OpenClaim.holds_of_wide 7 Try.f7 rfl rfl rfl rfl rfl rfl rfl ⟨rfl, rfl, rfl, rfl, rfl⟩ rfl rfl rfl rfl rfl (by kernel_rfl) Try.func7 (by kernel_rfl)
    (of_decide_eq_true (by kernel_rfl)) (by unfold Func.isWrapper; first | (rw [if_pos (by decide +kernel)]; kernel_rfl) | (rw [if_neg (by decide +kernel)]; exact ⟨rfl, rfl⟩))
    (fun os started H enc _ => lifted os started H enc)
theorem proved : Rows.EncodeAllSaid := over
end Go.Proofs.Ytnnedajhphkphaa.encodeAllRow
namespace Go.Proofs.Ytnnedajhphkphaa
/-- The row, under a short name, for the claim. -/
theorem encodeAll_holds : Rows.EncodeAllSaid := encodeAllRow.proved
end Go.Proofs.Ytnnedajhphkphaa
