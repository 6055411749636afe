/-
There is no machine of an image that may not be, and nothing at a thread that there is not: the law TsoNone. Conditions: as each theorem states them.
-/
import Derived.Test.YtaenjbhhpdmhgaaMTsM
set_option linter.unusedVariables false
set_option linter.unusedSimpArgs false
namespace Go.Proofs.Ytaenjbhhpdmhgaa.Tso
open Go.RowKit Go.Proofs.YtaenjbhhpdmhgaaW.PrintWords Go.Proofs.YtaenjbhhpdmhgaaW.PrintLast Go.Proofs.YtaenjbhhpdmhgaaW.PrintMore
open Go.Proofs.Ytaenjbhhpdmhgaa.Kit
open Go.Proofs.Ytaenjbhhpdmhgaa.PTsoScript
set_option maxHeartbeats 8000000 in
set_option maxRecDepth 100000 in
theorem tsoNone.calls (V : Option Addr) (cv : Nat) (L : List (List S28)) (c k : Int) (w : World) (hC : Kd.C (Kd.slice 28 k28) w V L.length L) (hcv : L.length ≤ cv) (hlen : ∀ t ∈ L, t.length ≤ 9223372036854775807) :
    Calls Try.prog 6 #[.slice V L.length cv, .int .i64 c, .int .i64 k] w fun e w' => e = .returned (.bool true) ∧ Below w.heap.size w w' := by
  have TA := awake.calls w
  obtain ⟨km, hkm⟩ : ∃ k, image_May.f k 0 c L = some (decide (Pure.imS 0 c L)) := Ev.rounds (Pure.imay_ev 0 c L hlen)
  by_cases him : Pure.imS 0 c L
  · rw [decide_eq_true him] at hkm
    obtain ⟨c', rfl⟩ := Int.eq_ofNat_of_zero_le (show 0 ≤ c from him.2.1)
    have TF := fun wx (h : Kd.C (Kd.slice 28 k28) wx V L.length L) => of.calls 0 c' L V cv none 0 [] wx h hcv hlen him (Kd.C_nil _ _)
    have TM := fun wx (h : Kd.C (Kd.slice 28 k28) wx V L.length L) => image_May.calls km 0 (c' : Int) V cv L true wx h hcv hkm
    have hL16 : L.length ≤ 16 := him.2.2.2.1
    replace hlen := Aside0.mk hlen
    replace him := Aside0.mk him
    obtain ⟨c, hcc⟩ : ∃ c : Int, c = (c' : Int) := ⟨_, rfl⟩
    rw [← hcc] at TF TM hkm ⊢
    replace hcc := Aside0.mk hcc
    go_enter Try.func6, Try.ntmps6
    go_upto_region 4 with (first
      | (go_at_call 9; refine TA.mono ?_; rintro e w1 ⟨rfl, hb1⟩)
      | go_in)
    have e7 := heap_alloc_new w1 (Obj.cells #[.int .i64 0, .int .i64 c, .slice V L.length cv] 36 (0, 0))
    have hb7 : Below w1.heap.size w1 (w1.alloc (Obj.cells #[.int .i64 0, .int .i64 c, .slice V L.length cv] 36 (0, 0))) := below_alloc (Below.refl _ _) _
    generalize w1.alloc (Obj.cells #[.int .i64 0, .int .i64 c, .slice V L.length cv] 36 (0, 0)) = w2 at e7 hb7 ⊢
    have HB := hb1.trans (hb7.mono hb1.size)
    generalize w1.heap.size = B7 at e7 ⊢
    clear hb1 hb7 TA
    have hC2 := Kd.C_below hC HB
    have x0 : w2.cell? ⟨B7, 0, none⟩ = some (.int .i64 0) := (blk_cell e7 0).trans rfl
    have x1 : w2.cell? ⟨B7, 1, none⟩ = some (.int .i64 c) := (blk_cell e7 1).trans rfl
    have x2 : w2.cell? ⟨B7, 2, none⟩ = some (.slice V L.length cv) := (blk_cell e7 2).trans rfl
    have TF2 : Calls Try.prog 11 #[.agg #[.int .i64 0, .int .i64 c, .slice V L.length cv], .slice none 0 0] w2 _ := TF w2 hC2
    clear TF
    go_upto_region 7 with (first
      | (go_at_call 11; refine TF2.mono ?_; rintro e w3 ⟨mb, ts, cv3, pv, rfl, hM, hb3⟩; have e8 := blk_below e7 hb3; have y0 : w3.cell? ⟨B7, 0, none⟩ = some (.int .i64 0) := (blk_cell e8 0).trans rfl; have y1 : w3.cell? ⟨B7, 1, none⟩ = some (.int .i64 c) := (blk_cell e8 1).trans rfl; have y2 : w3.cell? ⟨B7, 2, none⟩ = some (.slice V L.length cv) := (blk_cell e8 2).trans rfl; have hC3 := Kd.C_below hC2 hb3; have TM3 := TM w3 hC3)
      | (go_at_call 21; refine TM3.mono ?_; rintro e w4 ⟨rfl, hb4⟩)
      | go_in)
    have hM4 := hM.below hb4
    have hb24 : w2.heap.size ≤ w4.heap.size := Nat.le_trans hb3.size hb4.size
    have HB4 : Below w.heap.size w w4 := (HB.trans (hb3.mono HB.size)).trans (hb4.mono (HB.trans (hb3.mono HB.size)).size)
    have hBL : w.heap.size ≤ w2.heap.size := HB.size
    have htl : ts.length = L.length := by rw [hM.len]; exact List.length_map ..
    generalize w2.heap.size = base at hM4 hb24 hBL
    clear hM hb3 hb4 TF2 TM TM3 hC3 hC2 HB x0 x1 x2 y0 y1 y2 e7 e8 hkm
    by_cases hin : 0 ≤ k ∧ k < (L.length : Int)
    · have hk0 : decide (k < 0) = false := decide_eq_false (by omega)
      have hk1 : decide ((L.length : Int) ≤ k) = false := decide_eq_false (by omega)
      replace hin := Aside0.mk hin
      go_wp2
      go_ret
      exact ⟨rfl, HB4⟩
    · have hk : ¬ (0 ≤ k ∧ k < (ts.length : Int)) := by rw [htl]; exact hin
      obtain ⟨N18, N19, N17, N16⟩ := none.calls mb cv3 pv _ ts k w4 hM4.blk (prow_of hM4.ptrs) hk
      have T12 := step_none.calls base mb _ ts cv3 pv _ k w4 hM4 hb24 hk
      have T13 := fun wx colx cvx (h : Mach wx base mb colx ts cvx pv _) hb => flush_none.calls base mb colx ts cvx pv ⟨firstS 0 c' [], L.map initThr, 0⟩ k wx h hb hk
      have hgo : (k < 0) ∨ (0 ≤ k ∧ (L.length : Int) ≤ k) := by omega
      replace hk := Aside0.mk hk
      replace hin := Aside0.mk hin
      replace htl := Aside0.mk htl
      rcases hgo with hk0 | ⟨hk0, hk1⟩
      · have hd0 : decide (k < 0) = true := decide_eq_true hk0
        replace hk0 := Aside0.mk hk0
        go_wp2_with (first
          | (go_at_call 18; refine N18.mono ?_; rintro e w5 ⟨rfl, h5⟩; obtain rfl := h5)
          | (go_at_call 19; refine N19.mono ?_; rintro e w5 ⟨rfl, h5⟩; obtain rfl := h5)
          | (go_at_call 17; refine N17.mono ?_; rintro e w5 ⟨rfl, h5⟩; obtain rfl := h5)
          | (go_at_call 16; refine N16.mono ?_; rintro e w5 ⟨rfl, h5⟩; obtain rfl := h5)
          | (go_at_call 12; go_loud (refine T12.mono ?_; rintro e w6 ⟨rfl, hb6, col6, cv6, hM6⟩; have hb26 := Nat.le_trans hb24 hb6.size))
          | (go_at_call 13; go_loud (refine (T13 w6 col6 cv6 hM6 hb26).mono ?_; rintro e w7 ⟨rfl, hb7, col7, cv7, hM7⟩))
          | go_in)
        go_ret
        have HB6 := HB4.trans (hb6.mono hBL)
        exact ⟨rfl, HB6.trans (hb7.mono hBL)⟩
      · have hd0 : decide (k < 0) = false := decide_eq_false (by omega)
        have hd1 : decide ((L.length : Int) ≤ k) = true := decide_eq_true hk1
        replace hk0 := Aside0.mk hk0
        replace hk1 := Aside0.mk hk1
        go_wp2_with (first
          | (go_at_call 18; refine N18.mono ?_; rintro e w5 ⟨rfl, h5⟩; obtain rfl := h5)
          | (go_at_call 19; refine N19.mono ?_; rintro e w5 ⟨rfl, h5⟩; obtain rfl := h5)
          | (go_at_call 17; refine N17.mono ?_; rintro e w5 ⟨rfl, h5⟩; obtain rfl := h5)
          | (go_at_call 16; refine N16.mono ?_; rintro e w5 ⟨rfl, h5⟩; obtain rfl := h5)
          | (go_at_call 12; go_loud (refine T12.mono ?_; rintro e w6 ⟨rfl, hb6, col6, cv6, hM6⟩; have hb26 := Nat.le_trans hb24 hb6.size))
          | (go_at_call 13; go_loud (refine (T13 w6 col6 cv6 hM6 hb26).mono ?_; rintro e w7 ⟨rfl, hb7, col7, cv7, hM7⟩))
          | go_in)
        go_ret
        have HB6 := HB4.trans (hb6.mono hBL)
        exact ⟨rfl, HB6.trans (hb7.mono hBL)⟩
  · rw [decide_eq_false him] at hkm
    have TF := fun wx (h : Kd.C (Kd.slice 28 k28) wx V L.length L) => of_none 0 c L V cv none 0 0 wx h hcv hlen him
    have TM := fun wx (h : Kd.C (Kd.slice 28 k28) wx V L.length L) => image_May.calls km 0 c V cv L false wx h hcv hkm
    replace hlen := Aside0.mk hlen
    replace him := Aside0.mk him
    go_enter Try.func6, Try.ntmps6
    go_upto_region 4 with (first
      | (go_at_call 9; refine TA.mono ?_; rintro e w1 ⟨rfl, hb1⟩)
      | go_in)
    have e7 := heap_alloc_new w1 (Obj.cells #[.int .i64 0, .int .i64 c, .slice V L.length cv] 36 (0, 0))
    have hb7 : Below w1.heap.size w1 (w1.alloc (Obj.cells #[.int .i64 0, .int .i64 c, .slice V L.length cv] 36 (0, 0))) := below_alloc (Below.refl _ _) _
    generalize w1.alloc (Obj.cells #[.int .i64 0, .int .i64 c, .slice V L.length cv] 36 (0, 0)) = w2 at e7 hb7 ⊢
    have HB := hb1.trans (hb7.mono hb1.size)
    generalize w1.heap.size = B7 at e7 ⊢
    clear hb1 hb7 TA
    have hC2 := Kd.C_below hC HB
    have x0 : w2.cell? ⟨B7, 0, none⟩ = some (.int .i64 0) := (blk_cell e7 0).trans rfl
    have x1 : w2.cell? ⟨B7, 1, none⟩ = some (.int .i64 c) := (blk_cell e7 1).trans rfl
    have x2 : w2.cell? ⟨B7, 2, none⟩ = some (.slice V L.length cv) := (blk_cell e7 2).trans rfl
    have TF2 := TF w2 hC2
    clear TF
    go_wp2_with (first
      | (go_at_call 11; refine TF2.mono ?_; rintro e w3 ⟨rfl, hb3⟩; have e8 := blk_below e7 hb3; have y0 : w3.cell? ⟨B7, 0, none⟩ = some (.int .i64 0) := (blk_cell e8 0).trans rfl; have y1 : w3.cell? ⟨B7, 1, none⟩ = some (.int .i64 c) := (blk_cell e8 1).trans rfl; have y2 : w3.cell? ⟨B7, 2, none⟩ = some (.slice V L.length cv) := (blk_cell e8 2).trans rfl; have TM3 := TM w3 (Kd.C_below hC2 hb3))
      | (go_at_call 21; refine TM3.mono ?_; rintro e w4 ⟨rfl, hb4⟩)
      | go_in)
    go_ret
    have HB3 := HB.trans (hb3.mono HB.size)
    exact ⟨rfl, HB3.trans (hb4.mono HB3.size)⟩
end Go.Proofs.Ytaenjbhhpdmhgaa.Tso
