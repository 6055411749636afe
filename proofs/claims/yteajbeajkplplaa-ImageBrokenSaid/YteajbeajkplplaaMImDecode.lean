/-
image.Decode walked by hand, by the printed contracts of the functions that it calls: what it reads of any bytes. Conditions: as each theorem states them.
-/
import Derived.Test.YteajbeajkplplaaPureImD
import Derived.Test.YteajbeajkplplaaRows
import Derived.WalkKit
import Derived.ProofKit
import Derived.Below
set_option linter.unusedSimpArgs false
set_option linter.unusedVariables false
namespace Go.Proofs.Yteajbeajkplplaa.Pure
open Go.RowKit Go.Proofs.YteajbeajkplplaaW.PrintWords Go.Proofs.YteajbeajkplplaaW.PrintLast Go.Proofs.YteajbeajkplplaaW.PrintMore Go.Proofs.Yteajbeajkplplaa.Kit
open Go.Proofs.Yteajbeajkplplaa.PImageBytes
attribute [local go_sem] max2_int min2_int max_two min_two max_three min_three max_four min_four   -- for this text's walks alone

def DecP (b : List Int) (w : World) (e : Ending) (w' : World) : Prop := Below w.heap.size w w' ∧
  ((∃ s c L V cv, e = .returned (.tuple #[.agg #[.int .i64 s, .int .i64 c, .slice V L.length cv], .bool true]) ∧ imS s c L ∧ (∀ t ∈ L, ∀ x ∈ t, U64 x) ∧ imB s c L = b ∧ L.length ≤ cv ∧ Kd.C (Kd.slice 46 k46) w' V L.length L) ∨
   (e = .returned (.tuple #[.agg #[.int .i64 0, .int .i64 0, .slice none 0 0], .bool false]) ∧ NoIm b))
theorem four_blocks (w : World) (o1 o2 o3 o4 : Obj) : ((((w.alloc o1).alloc o2).alloc o3).alloc o4).heap[w.heap.size]? = some o1 ∧ ((((w.alloc o1).alloc o2).alloc o3).alloc o4).heap[w.heap.size + 1]? = some o2 ∧
    ((((w.alloc o1).alloc o2).alloc o3).alloc o4).heap[w.heap.size + 1 + 1]? = some o3 ∧ ((((w.alloc o1).alloc o2).alloc o3).alloc o4).heap[w.heap.size + 1 + 1 + 1]? = some o4 ∧ Below w.heap.size w ((((w.alloc o1).alloc o2).alloc o3).alloc o4) := by
  have s1 : (w.alloc o1).heap.size = w.heap.size + 1 := by simp
  have s2 : ((w.alloc o1).alloc o2).heap.size = w.heap.size + 1 + 1 := by simp
  have s3 : (((w.alloc o1).alloc o2).alloc o3).heap.size = w.heap.size + 1 + 1 + 1 := by simp
  have n1 := heap_alloc_new w o1
  have n2 := heap_alloc_new (w.alloc o1) o2
  have n3 := heap_alloc_new ((w.alloc o1).alloc o2) o3
  have n4 := heap_alloc_new (((w.alloc o1).alloc o2).alloc o3) o4
  rw [s1] at n2
  rw [s2] at n3
  rw [s3] at n4
  exact ⟨(Below.heap_alloc _ _ _ (by omega)).trans ((Below.heap_alloc _ _ _ (by omega)).trans ((Below.heap_alloc _ _ _ (by omega)).trans n1)), (Below.heap_alloc _ _ _ (by omega)).trans ((Below.heap_alloc _ _ _ (by omega)).trans n2), (Below.heap_alloc _ _ _ (by omega)).trans n3, n4,
    (((((Below.refl _ _).alloc (Nat.le_refl _) _).alloc (by omega) _).alloc (by omega) _).alloc (by omega) _)⟩
theorem info5c : (Try.prog.info? 5).map (fun i => (i.zero, i.size, i.bytes)) = some (some (.int .u8 0), 1, 1) := by kernel_rfl
def idec.T21 : Bool × List (List Nat × List Nat) := (true, [([], []), ([0], [0]), ([], []), ([2], [2]), ([1, 3], [1, 3]), ([], []), ([], []), ([6], [6]), ([5, 7], [5, 7]), ([0, 1, 2, 3, 4], []), ([9, 4, 4, 0, 1, 2, 3, 4], [4, 9]), ([8, 10, 0, 1, 2, 3, 4, 5, 6, 7, 8, 9, 10], [8])])
def idec.B21 : List Nat := [0, 1, 0, 4, 15, 0, 0, 64, 224, 31, 543, 2047]
theorem idec.tab21 : rtab .any (opsOf Try.f13 21) = idec.T21 := by kernel_rfl
theorem idec.bits21 : waitsOk idec.T21.2 idec.B21 = true := by kernel_rfl
set_option maxHeartbeats 4000000 in
set_option maxRecDepth 100000 in
theorem idec.calls (A0 : Option Addr) (c0 : Nat) (b : List Int) (w : World) (hr : Kd.C (Kd.int .u8) w A0 b.length b) (hc : b.length ≤ c0) (hb : ∀ x ∈ b, Byte x) (hl : b.length ≤ 35184372088816) :
    Calls Try.prog 13 #[.slice A0 b.length c0] w (DecP b w) := by
  replace hb := Aside0.mk hb
  go_enter Try.func13, Try.ntmps13
  go_wp2
  obtain ⟨e2, e4, e5, e15, HB0⟩ := four_blocks w (Obj.cells #[.int .i64 0, .int .i64 0, .slice none 0 0] 25 (0, 0)) (Obj.cells #[.int .i64 0, .int .i64 0, .slice none 0 0] 25 (0, 0)) (Obj.cells #[.int .i64 0] 3 (0, 0)) (Obj.cells #[.pointer (some ⟨w.heap.size + 1, 0, none⟩), .pointer (some ⟨w.heap.size + 1, 1, none⟩), .pointer (some ⟨w.heap.size + 1 + 1, 0, none⟩)] 54 (0, 0))
  have hC0 := Kd.C_below hr HB0
  generalize (((w.alloc (Obj.cells #[.int .i64 0, .int .i64 0, .slice none 0 0] 25 (0, 0))).alloc (Obj.cells #[.int .i64 0, .int .i64 0, .slice none 0 0] 25 (0, 0))).alloc (Obj.cells #[.int .i64 0] 3 (0, 0))).alloc (Obj.cells #[.pointer (some ⟨w.heap.size + 1, 0, none⟩), .pointer (some ⟨w.heap.size + 1, 1, none⟩), .pointer (some ⟨w.heap.size + 1 + 1, 0, none⟩)] 54 (0, 0)) = w0 at e2 e4 e5 e15 HB0 hC0 ⊢
  obtain ⟨B2, hB2⟩ : ∃ B, B = w.heap.size := ⟨_, rfl⟩
  rw [← hB2] at e2 e4 e5 e15 ⊢
  obtain ⟨B4, hB4⟩ : ∃ B, B = B2 + 1 := ⟨_, rfl⟩
  rw [← hB4] at e4 e5 e15 ⊢
  obtain ⟨B5, hB5⟩ : ∃ B, B = B4 + 1 := ⟨_, rfl⟩
  rw [← hB5] at e5 e15 ⊢
  obtain ⟨B15, hB15⟩ : ∃ B, B = B5 + 1 := ⟨_, rfl⟩
  rw [← hB15] at e15 ⊢
  have n42 : B4 ≠ B2 := by omega
  have n52 : B5 ≠ B2 := by omega
  have n54 : B5 ≠ B4 := by omega
  have n24 : B2 ≠ B4 := by omega
  have n25 : B2 ≠ B5 := by omega
  have n45 : B4 ≠ B5 := by omega
  have g2 : w.heap.size ≤ B2 := by omega
  have g4 : w.heap.size ≤ B4 := by omega
  have g5 : w.heap.size ≤ B5 := by omega
  have n154 : B15 ≠ B4 := by omega
  have n155 : B15 ≠ B5 := by omega
  have n152 : B15 ≠ B2 := by omega
  replace hB2 := Aside0.mk hB2
  replace hB4 := Aside0.mk hB4
  replace hB5 := Aside0.mk hB5
  replace hB15 := Aside0.mk hB15
  refine wp_loop_rounds 4 ?_
  have hlen0 : Aside0 (b.length = b.length + 0) := ⟨rfl⟩
  have hbr0 := hb.out
  have hC0 := hr
  have hle0 := hc
  rw [rounds_succ]
  have p0 : w0.cell? ⟨B15, 0, none⟩ = some (.pointer (some ⟨B4, 0, none⟩)) := (blk_cell e15 0).trans rfl
  have p1 : w0.cell? ⟨B15, 1, none⟩ = some (.pointer (some ⟨B4, 1, none⟩)) := (blk_cell e15 1).trans rfl
  have p2 : w0.cell? ⟨B15, 2, none⟩ = some (.pointer (some ⟨B5, 0, none⟩)) := (blk_cell e15 2).trans rfl
  have TG := get.calls A0 c0 b w0 (Kd.C_below hC0 HB0) hle0
  by_cases h0 : b.length < 4
  · rw [if_pos h0] at TG
    have hno : NoIm b := no_short (by have := hlen0.out; omega)
    clear hlen0
    go_wp2_with (first
      | (go_at_call 23; go_loud (refine TG.mono ?_; rintro e w1a ⟨rfl, hb1⟩; have e2 := blk_below e2 hb1; have e4 := blk_below e4 hb1; have e5 := blk_below e5 hb1; have e15 := blk_below e15 hb1; have HBa := HB0.trans (hb1.mono HB0.size); have q0 : w1a.cell? ⟨B4, 0, none⟩ = some (.int .i64 0) := (blk_cell e4 0).trans rfl; have q1 : w1a.cell? ⟨B4, 1, none⟩ = some (.int .i64 0) := (blk_cell e4 1).trans rfl; have q2 : w1a.cell? ⟨B4, 2, none⟩ = some (.slice none 0 0) := (blk_cell e4 2).trans rfl; have fq := blk_frozen e4 0; have z0 : w1a.cell? ⟨B2, 0, none⟩ = some (.int .i64 0) := (blk_cell e2 0).trans rfl; have z1 : w1a.cell? ⟨B2, 1, none⟩ = some (.int .i64 0) := (blk_cell e2 1).trans rfl; have z2 : w1a.cell? ⟨B2, 2, none⟩ = some (.slice none 0 0) := (blk_cell e2 2).trans rfl; have fz0 := blk_frozen e2 0; have fz1 := blk_frozen e2 1; have fz2 := blk_frozen e2 2))
      | go_in)
    refine bodyPost_ret (v := .tuple #[.agg #[.int .i64 0, .int .i64 0, .slice none 0 0], .bool false]) ?_ rfl ⟨?_, .inr ⟨rfl, hno⟩⟩
    · simp [results, Try.results13, go_sem, *]
    · repeat (first | exact HBa | refine Below.setCell ?_ (by assumption) _)
  obtain ⟨v0, hv0, v00, v01, hs0⟩ := take4 b hbr0 (by omega)
  rw [if_neg h0, hv0] at TG
  have hC1 := Kd.C_drop (m := 4) (c := c0) hC0 (by omega) hle0
  have hbr1 : ∀ x ∈ b.drop 4, Byte x := fun x hx => hbr0 x (List.mem_of_mem_drop hx)
  have hle1 : (b.drop 4).length ≤ c0 - 4 := by rw [List.length_drop]; omega
  have hlen1 : Aside0 (b.length = (b.drop 4).length + 4) := ⟨by have := hlen0.out; rw [List.length_drop]; omega⟩
  rw [show b.length - 4 = (b.drop 4).length from List.length_drop.symm] at TG
  generalize b.drop 4 = r1 at TG hC1 hbr1 hle1 hlen1 hs0
  replace hC1 : Kd.C (Kd.int .u8) w (if c0 = 4 then A0 else A0.map (·.add (4 * 1))) r1.length r1 := hC1
  generalize (if c0 = 4 then A0 else A0.map (·.add (4 * 1))) = A1 at TG hC1
  generalize c0 - 4 = c1 at TG hle1
  replace hs0 := Aside0.mk hs0
  replace hv0 := Aside0.mk hv0
  go_wp2_with (first
    | (go_at_call 23; go_loud (refine TG.mono ?_; rintro e w1a ⟨rfl, hb1⟩; have e2 := blk_below e2 hb1; have e4 := blk_below e4 hb1; have e5 := blk_below e5 hb1; have e15 := blk_below e15 hb1; have HBa := HB0.trans (hb1.mono HB0.size); have q0 : w1a.cell? ⟨B4, 0, none⟩ = some (.int .i64 0) := (blk_cell e4 0).trans rfl; have q1 : w1a.cell? ⟨B4, 1, none⟩ = some (.int .i64 0) := (blk_cell e4 1).trans rfl; have q2 : w1a.cell? ⟨B4, 2, none⟩ = some (.slice none 0 0) := (blk_cell e4 2).trans rfl; have fq := blk_frozen e4 0))
    | go_in)
  have e4 := blk_put (cs' := #[.int .i64 v0, .int .i64 0, .slice none 0 0]) e4 0 (.int .i64 v0) rfl
  have e5 := blk_far (p := ⟨B4, 0, none⟩) e5 n54 (.int .i64 v0)
  have e2 := blk_far (p := ⟨B4, 0, none⟩) e2 n24 (.int .i64 v0)
  have e15 := blk_far (p := ⟨B4, 0, none⟩) e15 n154 (.int .i64 v0)
  have HB1 : Below w.heap.size w (w1a.setCell ⟨B4, 0, none⟩ (.int .i64 v0)) := HBa.setCell g4 _
  generalize w1a.setCell ⟨B4, 0, none⟩ (.int .i64 v0) = w1 at e2 e4 e5 e15 HB1 ⊢
  clear hb1 HBa q0 q1 q2 fq p0 p1 p2 HB0
  rw [rounds_succ]
  have p0 : w1.cell? ⟨B15, 0, none⟩ = some (.pointer (some ⟨B4, 0, none⟩)) := (blk_cell e15 0).trans rfl
  have p1 : w1.cell? ⟨B15, 1, none⟩ = some (.pointer (some ⟨B4, 1, none⟩)) := (blk_cell e15 1).trans rfl
  have p2 : w1.cell? ⟨B15, 2, none⟩ = some (.pointer (some ⟨B5, 0, none⟩)) := (blk_cell e15 2).trans rfl
  have TG := get.calls A1 c1 r1 w1 (Kd.C_below hC1 HB1) hle1
  by_cases h1 : r1.length < 4
  · rw [if_pos h1] at TG
    have hno : NoIm b := no_short (by have := hlen1.out; omega)
    clear hlen1
    go_wp2_with (first
      | (go_at_call 23; go_loud (refine TG.mono ?_; rintro e w2a ⟨rfl, hb1⟩; have e2 := blk_below e2 hb1; have e4 := blk_below e4 hb1; have e5 := blk_below e5 hb1; have e15 := blk_below e15 hb1; have HBa := HB1.trans (hb1.mono HB1.size); have q0 : w2a.cell? ⟨B4, 0, none⟩ = some (.int .i64 v0) := (blk_cell e4 0).trans rfl; have q1 : w2a.cell? ⟨B4, 1, none⟩ = some (.int .i64 0) := (blk_cell e4 1).trans rfl; have q2 : w2a.cell? ⟨B4, 2, none⟩ = some (.slice none 0 0) := (blk_cell e4 2).trans rfl; have fq := blk_frozen e4 1; have z0 : w2a.cell? ⟨B2, 0, none⟩ = some (.int .i64 0) := (blk_cell e2 0).trans rfl; have z1 : w2a.cell? ⟨B2, 1, none⟩ = some (.int .i64 0) := (blk_cell e2 1).trans rfl; have z2 : w2a.cell? ⟨B2, 2, none⟩ = some (.slice none 0 0) := (blk_cell e2 2).trans rfl; have fz0 := blk_frozen e2 0; have fz1 := blk_frozen e2 1; have fz2 := blk_frozen e2 2))
      | go_in)
    refine bodyPost_ret (v := .tuple #[.agg #[.int .i64 0, .int .i64 0, .slice none 0 0], .bool false]) ?_ rfl ⟨?_, .inr ⟨rfl, hno⟩⟩
    · simp [results, Try.results13, go_sem, *]
    · repeat (first | exact HBa | refine Below.setCell ?_ (by assumption) _)
  obtain ⟨v1, hv1, v10, v11, hs1⟩ := take4 r1 hbr1 (by omega)
  rw [if_neg h1, hv1] at TG
  have hC2 := Kd.C_drop (m := 4) (c := c1) hC1 (by omega) hle1
  have hbr2 : ∀ x ∈ r1.drop 4, Byte x := fun x hx => hbr1 x (List.mem_of_mem_drop hx)
  have hle2 : (r1.drop 4).length ≤ c1 - 4 := by rw [List.length_drop]; omega
  have hlen2 : Aside0 (b.length = (r1.drop 4).length + 8) := ⟨by have := hlen1.out; rw [List.length_drop]; omega⟩
  rw [show r1.length - 4 = (r1.drop 4).length from List.length_drop.symm] at TG
  generalize r1.drop 4 = r2 at TG hC2 hbr2 hle2 hlen2 hs1
  replace hC2 : Kd.C (Kd.int .u8) w (if c1 = 4 then A1 else A1.map (·.add (4 * 1))) r2.length r2 := hC2
  generalize (if c1 = 4 then A1 else A1.map (·.add (4 * 1))) = A2 at TG hC2
  generalize c1 - 4 = c2 at TG hle2
  replace hs1 := Aside0.mk hs1
  replace hv1 := Aside0.mk hv1
  go_wp2_with (first
    | (go_at_call 23; go_loud (refine TG.mono ?_; rintro e w2a ⟨rfl, hb1⟩; have e2 := blk_below e2 hb1; have e4 := blk_below e4 hb1; have e5 := blk_below e5 hb1; have e15 := blk_below e15 hb1; have HBa := HB1.trans (hb1.mono HB1.size); have q0 : w2a.cell? ⟨B4, 0, none⟩ = some (.int .i64 v0) := (blk_cell e4 0).trans rfl; have q1 : w2a.cell? ⟨B4, 1, none⟩ = some (.int .i64 0) := (blk_cell e4 1).trans rfl; have q2 : w2a.cell? ⟨B4, 2, none⟩ = some (.slice none 0 0) := (blk_cell e4 2).trans rfl; have fq := blk_frozen e4 1))
    | go_in)
  have e4 := blk_put (cs' := #[.int .i64 v0, .int .i64 v1, .slice none 0 0]) e4 1 (.int .i64 v1) rfl
  have e5 := blk_far (p := ⟨B4, 1, none⟩) e5 n54 (.int .i64 v1)
  have e2 := blk_far (p := ⟨B4, 1, none⟩) e2 n24 (.int .i64 v1)
  have e15 := blk_far (p := ⟨B4, 1, none⟩) e15 n154 (.int .i64 v1)
  have HB2 : Below w.heap.size w (w2a.setCell ⟨B4, 1, none⟩ (.int .i64 v1)) := HBa.setCell g4 _
  generalize w2a.setCell ⟨B4, 1, none⟩ (.int .i64 v1) = w2 at e2 e4 e5 e15 HB2 ⊢
  clear hb1 HBa q0 q1 q2 fq p0 p1 p2 HB1
  rw [rounds_succ]
  have p0 : w2.cell? ⟨B15, 0, none⟩ = some (.pointer (some ⟨B4, 0, none⟩)) := (blk_cell e15 0).trans rfl
  have p1 : w2.cell? ⟨B15, 1, none⟩ = some (.pointer (some ⟨B4, 1, none⟩)) := (blk_cell e15 1).trans rfl
  have p2 : w2.cell? ⟨B15, 2, none⟩ = some (.pointer (some ⟨B5, 0, none⟩)) := (blk_cell e15 2).trans rfl
  have TG := get.calls A2 c2 r2 w2 (Kd.C_below hC2 HB2) hle2
  by_cases h2 : r2.length < 4
  · rw [if_pos h2] at TG
    have hno : NoIm b := no_short (by have := hlen2.out; omega)
    clear hlen2
    go_wp2_with (first
      | (go_at_call 23; go_loud (refine TG.mono ?_; rintro e w3a ⟨rfl, hb1⟩; have e2 := blk_below e2 hb1; have e4 := blk_below e4 hb1; have e5 := blk_below e5 hb1; have e15 := blk_below e15 hb1; have HBa := HB2.trans (hb1.mono HB2.size); have q0 : w3a.cell? ⟨B5, 0, none⟩ = some (.int .i64 0) := (blk_cell e5 0).trans rfl; have fq := blk_frozen e5 0; have z0 : w3a.cell? ⟨B2, 0, none⟩ = some (.int .i64 0) := (blk_cell e2 0).trans rfl; have z1 : w3a.cell? ⟨B2, 1, none⟩ = some (.int .i64 0) := (blk_cell e2 1).trans rfl; have z2 : w3a.cell? ⟨B2, 2, none⟩ = some (.slice none 0 0) := (blk_cell e2 2).trans rfl; have fz0 := blk_frozen e2 0; have fz1 := blk_frozen e2 1; have fz2 := blk_frozen e2 2))
      | go_in)
    refine bodyPost_ret (v := .tuple #[.agg #[.int .i64 0, .int .i64 0, .slice none 0 0], .bool false]) ?_ rfl ⟨?_, .inr ⟨rfl, hno⟩⟩
    · simp [results, Try.results13, go_sem, *]
    · repeat (first | exact HBa | refine Below.setCell ?_ (by assumption) _)
  obtain ⟨v2, hv2, v20, v21, hs2⟩ := take4 r2 hbr2 (by omega)
  rw [if_neg h2, hv2] at TG
  have hC3 := Kd.C_drop (m := 4) (c := c2) hC2 (by omega) hle2
  have hbr3 : ∀ x ∈ r2.drop 4, Byte x := fun x hx => hbr2 x (List.mem_of_mem_drop hx)
  have hle3 : (r2.drop 4).length ≤ c2 - 4 := by rw [List.length_drop]; omega
  have hlen3 : Aside0 (b.length = (r2.drop 4).length + 12) := ⟨by have := hlen2.out; rw [List.length_drop]; omega⟩
  rw [show r2.length - 4 = (r2.drop 4).length from List.length_drop.symm] at TG
  generalize r2.drop 4 = r3 at TG hC3 hbr3 hle3 hlen3 hs2
  replace hC3 : Kd.C (Kd.int .u8) w (if c2 = 4 then A2 else A2.map (·.add (4 * 1))) r3.length r3 := hC3
  generalize (if c2 = 4 then A2 else A2.map (·.add (4 * 1))) = A3 at TG hC3
  generalize c2 - 4 = c3 at TG hle3
  replace hs2 := Aside0.mk hs2
  replace hv2 := Aside0.mk hv2
  go_wp2_with (first
    | (go_at_call 23; go_loud (refine TG.mono ?_; rintro e w3a ⟨rfl, hb1⟩; have e2 := blk_below e2 hb1; have e4 := blk_below e4 hb1; have e5 := blk_below e5 hb1; have e15 := blk_below e15 hb1; have HBa := HB2.trans (hb1.mono HB2.size); have q0 : w3a.cell? ⟨B5, 0, none⟩ = some (.int .i64 0) := (blk_cell e5 0).trans rfl; have fq := blk_frozen e5 0))
    | go_in)
  have e5 := blk_put (cs' := #[.int .i64 v2]) e5 0 (.int .i64 v2) rfl
  have e4 := blk_far (p := ⟨B5, 0, none⟩) e4 n45 (.int .i64 v2)
  have e2 := blk_far (p := ⟨B5, 0, none⟩) e2 n25 (.int .i64 v2)
  have e15 := blk_far (p := ⟨B5, 0, none⟩) e15 n155 (.int .i64 v2)
  have HB3 : Below w.heap.size w (w3a.setCell ⟨B5, 0, none⟩ (.int .i64 v2)) := HBa.setCell g5 _
  generalize w3a.setCell ⟨B5, 0, none⟩ (.int .i64 v2) = w3 at e2 e4 e5 e15 HB3 ⊢
  clear hb1 HBa q0 fq p0 p1 p2 HB2
  rw [rounds_succ]
  clear TG
  have hp0 : Pre b v0 v1 v2 [] r3 := by
    unfold Pre
    rw [hs0.out, hs1.out, hs2.out]; rfl
  replace hp0 := Aside0.mk hp0
  have x50 : w3.cell? ⟨B5, 0, none⟩ = some (.int .i64 v2) := (blk_cell e5 0).trans rfl
  by_cases h16 : 16 < v2
  · have hno : NoIm b := no_many hp0.out v00 v01 v10 v11 v20 v21 h16
    have z0 : w3.cell? ⟨B2, 0, none⟩ = some (.int .i64 0) := (blk_cell e2 0).trans rfl
    have z1 : w3.cell? ⟨B2, 1, none⟩ = some (.int .i64 0) := (blk_cell e2 1).trans rfl
    have z2 : w3.cell? ⟨B2, 2, none⟩ = some (.slice none 0 0) := (blk_cell e2 2).trans rfl
    have fz0 := blk_frozen e2 0
    have fz1 := blk_frozen e2 1
    have fz2 := blk_frozen e2 2
    go_wp2
    refine bodyPost_ret (v := .tuple #[.agg #[.int .i64 0, .int .i64 0, .slice none 0 0], .bool false]) ?_ rfl ⟨?_, .inr ⟨rfl, hno⟩⟩
    · simp [results, Try.results13, go_sem, *]
    · repeat (first | exact HB3 | refine Below.setCell ?_ (by assumption) _)
  obtain ⟨n, hn⟩ : ∃ n : Nat, v2 = (n : Int) := ⟨v2.toNat, by omega⟩
  rw [hn] at hp0 x50 h16 ⊢
  go_upto_region 14 with go_in
  have hn16 : n ≤ 16 := by omega
  have hlr3 : r3.length ≤ b.length := by have := hlen3.out; omega
  replace hbr3 := Aside0.mk hbr3
  replace hb := hb
  clear x50 h16 e15 e5 hbr0 hbr1 hbr2 hC0 hC1 hC2 h0 h1 h2 hle1 hle2
  go_loopw [0, 37] (fun vb v37 wr => ∃ (i : Nat) (L : List (List S46)) (rest : List Int) (A : Option Addr) (c : Nat) (u : Value), vb = .slice A rest.length c ∧ v37 = .int .i64 i ∧ i ≤ n ∧ Aside0 (L.length = i) ∧ Aside0 (Pre b v0 v1 n L rest) ∧ Aside0 (∀ t ∈ L, t.length ≤ 4096 ∧ ∀ x ∈ t, okX x ∧ U64 x) ∧ Aside0 (∀ x ∈ rest, Byte x) ∧ Kd.C (Kd.int .u8) w A rest.length rest ∧ rest.length ≤ c ∧ rest.length ≤ b.length ∧ Kd.S (Kd.slice 46 k46) 41 wr w.heap.size (fun _ => True) u L ∧ wr.heap[B2]? = some (.cells #[.int .i64 0, .int .i64 0, .slice none 0 0] 25 (0, 0)) ∧ wr.heap[B4]? = some (.cells #[.int .i64 v0, .int .i64 v1, u] 25 (0, 0)) ∧ Below w.heap.size w wr)
    (fun _ v37 _ => n - (intOf v37).toNat)
  case atStart => exact ⟨0, [], r3, A3, c3, _, rfl, rfl, by omega, ⟨rfl⟩, hp0, ⟨by intro t ht; cases ht⟩, hbr3, hC3, hle3, hlr3, Kd.S_nil _ _ _ _ _, e2, e4, HB3⟩
  case round =>
    clear hp0 hbr3 hC3 hle3 hlr3 e2 e4 HB3 hlen1 hlen2 hlen3
    obtain ⟨i, L, rest, A, c, u, rfl, rfl, hin, hLi, hp, hLc, hbr, hC, hle, hlr, HS, e2, e4, HB⟩ := hrel
    have hcod : Aside0 (Codes L) := ⟨fun t ht => ⟨(hLc.out t ht).1, fun x hx => may_ok ((hLc.out t ht).2 x hx).1 ((hLc.out t ht).2 x hx).2⟩⟩
    have hn1 : (n : Int) ≤ 16 := by omega
    have hn0 : (0 : Int) ≤ (n : Int) := by omega
    by_cases hi : i < n
    · have TG := get.calls A c rest wr (Kd.C_below hC HB) hle
      by_cases h4 : rest.length < 4
      · rw [if_pos h4] at TG
        have hno : NoIm b := no_next hp.out v00 v01 v10 v11 hn0 hn1 hcod.out (by rw [hLi.out]; omega) (no_rest4 h4)
        go_wp2_with (first
          | (go_at_call 23; go_loud (refine TG.mono ?_; rintro e w1 ⟨rfl, hb1⟩; have e2 := blk_below e2 hb1; have e4 := blk_below e4 hb1; have HBa := HB.trans (hb1.mono HB.size); have z0 : w1.cell? ⟨B2, 0, none⟩ = some (.int .i64 0) := (blk_cell e2 0).trans rfl; have z1 : w1.cell? ⟨B2, 1, none⟩ = some (.int .i64 0) := (blk_cell e2 1).trans rfl; have z2 : w1.cell? ⟨B2, 2, none⟩ = some (.slice none 0 0) := (blk_cell e2 2).trans rfl; have fz0 := blk_frozen e2 0; have fz1 := blk_frozen e2 1; have fz2 := blk_frozen e2 2))
          | go_in)
        refine bodyPost_ret (v := .tuple #[.agg #[.int .i64 0, .int .i64 0, .slice none 0 0], .bool false]) ?_ rfl ⟨?_, .inr ⟨rfl, hno⟩⟩
        · simp [results, Try.results13, go_sem, *]
        · repeat (first | exact HBa | refine Below.setCell ?_ (by assumption) _)
      obtain ⟨m, hvm, m0, m1, hsm⟩ := take4 rest hbr.out (by omega)
      rw [if_neg h4, hvm] at TG
      have hC1 := Kd.C_drop (m := 4) (c := c) hC (by omega) hle
      have hbr1 : ∀ x ∈ rest.drop 4, Byte x := fun x hx => hbr.out x (List.mem_of_mem_drop hx)
      have hle1 : (rest.drop 4).length ≤ c - 4 := by rw [List.length_drop]; omega
      have hlr1 : (rest.drop 4).length ≤ b.length := by rw [List.length_drop]; omega
      rw [show rest.length - 4 = (rest.drop 4).length from List.length_drop.symm] at TG
      generalize rest.drop 4 = r1 at TG hC1 hbr1 hle1 hlr1 hsm
      replace hC1 : Kd.C (Kd.int .u8) w (if c = 4 then A else A.map (·.add (4 * 1))) r1.length r1 := hC1
      generalize (if c = 4 then A else A.map (·.add (4 * 1))) = A1 at TG hC1
      generalize c - 4 = c1 at TG hle1
      replace hvm := Aside0.mk hvm
      replace hbr1 := Aside0.mk hbr1
      have hp1 : Aside0 (Pre b v0 v1 n L (b4 m ++ r1)) := ⟨by rw [← hsm]; exact hp.out⟩
      replace hsm := Aside0.mk hsm
      by_cases hm : 4096 < m
      · have hno : NoIm b := (no_next hp1.out v00 v01 v10 v11 hn0 hn1 hcod.out (by rw [hLi.out]; omega) (no_size m0 m1 (.inl hm)))
        go_wp2_with (first
          | (go_at_call 23; go_loud (refine TG.mono ?_; rintro e w1 ⟨rfl, hb1⟩; have e2 := blk_below e2 hb1; have e4 := blk_below e4 hb1; have HBa := HB.trans (hb1.mono HB.size); have z0 : w1.cell? ⟨B2, 0, none⟩ = some (.int .i64 0) := (blk_cell e2 0).trans rfl; have z1 : w1.cell? ⟨B2, 1, none⟩ = some (.int .i64 0) := (blk_cell e2 1).trans rfl; have z2 : w1.cell? ⟨B2, 2, none⟩ = some (.slice none 0 0) := (blk_cell e2 2).trans rfl; have fz0 := blk_frozen e2 0; have fz1 := blk_frozen e2 1; have fz2 := blk_frozen e2 2))
          | go_in)
        refine bodyPost_ret (v := .tuple #[.agg #[.int .i64 0, .int .i64 0, .slice none 0 0], .bool false]) ?_ rfl ⟨?_, .inr ⟨rfl, hno⟩⟩
        · simp [results, Try.results13, go_sem, *]
        · repeat (first | exact HBa | refine Below.setCell ?_ (by assumption) _)
      by_cases hsz : (r1.length : Int) < m * 16
      · have hno : NoIm b := (no_next hp1.out v00 v01 v10 v11 hn0 hn1 hcod.out (by rw [hLi.out]; omega) (no_size m0 m1 (.inr (.inl hsz))))
        go_wp2_with (first
          | (go_at_call 23; go_loud (refine TG.mono ?_; rintro e w1 ⟨rfl, hb1⟩; have e2 := blk_below e2 hb1; have e4 := blk_below e4 hb1; have HBa := HB.trans (hb1.mono HB.size); have z0 : w1.cell? ⟨B2, 0, none⟩ = some (.int .i64 0) := (blk_cell e2 0).trans rfl; have z1 : w1.cell? ⟨B2, 1, none⟩ = some (.int .i64 0) := (blk_cell e2 1).trans rfl; have z2 : w1.cell? ⟨B2, 2, none⟩ = some (.slice none 0 0) := (blk_cell e2 2).trans rfl; have fz0 := blk_frozen e2 0; have fz1 := blk_frozen e2 1; have fz2 := blk_frozen e2 2))
          | go_in)
        refine bodyPost_ret (v := .tuple #[.agg #[.int .i64 0, .int .i64 0, .slice none 0 0], .bool false]) ?_ rfl ⟨?_, .inr ⟨rfl, hno⟩⟩
        · simp [results, Try.results13, go_sem, *]
        · repeat (first | exact HBa | refine Below.setCell ?_ (by assumption) _)
      go_upto_region 18 with (first
        | (go_at_call 23; go_loud (refine TG.mono ?_; rintro e w1 ⟨rfl, hb1⟩; have e2 := blk_below e2 hb1; have e4 := blk_below e4 hb1; have HBa := HB.trans (hb1.mono HB.size)))
        | go_in)
      obtain ⟨i5, hi5, _⟩ := Option.map_eq_some_iff.1 info5c
      have hcut := cut_to (P := Try.prog) 27 5 .i64 Try.underlying27 hi5 A1 r1.length c1 (m * 16) (by omega) (by omega) hle1
      have hTK := Kd.C_take (m := (m * 16).toNat) hC1 (by omega)
      have hlq : (r1.take (m * 16).toNat).length = (m * 16).toNat := by rw [List.length_take]; omega
      obtain ⟨kb, cs, ok, hkb, hor⟩ := back_some (r1.take (m * 16).toNat) (fun x hx => hbr1.out x (List.mem_of_mem_take hx)) (by omega)
      have TB := encode_Back.calls kb (fun k => k < w1.heap.size) A1 c1 (r1.take (m * 16).toNat) cs ok w1 (C_V8 (Kd.C_below hTK HBa) (by omega)) hkb
      rw [hlq] at TB
      replace hkb := Aside0.mk hkb
      replace hlq := Aside0.mk hlq
      have hBS := hb1.size
      cases ok with
      | false =>
        have hno : NoIm b := (no_next hp1.out v00 v01 v10 v11 hn0 hn1 hcod.out (by rw [hLi.out]; omega) (no_size m0 m1 (.inr (.inr (hor.elim (fun h => absurd h.1 (by simp)) (fun h => h.2.2))))))
        clear hor
        go_wp2_with (first
          | (go_at_call 24; go_loud (refine TB.mono ?_; rintro e w2 ⟨vcs, rfl, hR2, hb2⟩; have e2 := blk_below e2 hb2; have e4 := blk_below e4 hb2; have HB2 := HBa.trans (hb2.mono HBa.size); have z0 : w2.cell? ⟨B2, 0, none⟩ = some (.int .i64 0) := (blk_cell e2 0).trans rfl; have z1 : w2.cell? ⟨B2, 1, none⟩ = some (.int .i64 0) := (blk_cell e2 1).trans rfl; have z2 : w2.cell? ⟨B2, 2, none⟩ = some (.slice none 0 0) := (blk_cell e2 2).trans rfl; have fz0 := blk_frozen e2 0; have fz1 := blk_frozen e2 1; have fz2 := blk_frozen e2 2))
          | go_in)
        refine bodyPost_ret (v := .tuple #[.agg #[.int .i64 0, .int .i64 0, .slice none 0 0], .bool false]) ?_ rfl ⟨?_, .inr ⟨rfl, hno⟩⟩
        · simp [results, Try.results13, go_sem, *]
        · repeat (first | exact HB2 | refine Below.setCell ?_ (by assumption) _)
      | true =>
        obtain ⟨hfl, hcs⟩ : cs.flatMap encX = r1.take (m * 16).toNat ∧ ∀ x ∈ cs, okX x ∧ U64 x := by
          rcases hor with ⟨_, h1, h2⟩ | ⟨h, _⟩
          · exact ⟨h1, h2⟩
          · cases h
        clear hor
        obtain ⟨hp2, hcl⟩ := pre_next hp1.out m0 (by omega) hfl
        replace hp2 := Aside0.mk hp2
        replace hcl := Aside0.mk hcl
        replace hcs := Aside0.mk hcs
        replace hfl := Aside0.mk hfl
        go_upto_region 21 with (first
          | (go_at_call 24; go_loud (refine TB.mono ?_; rintro e w2 ⟨vcs, rfl, hR2, hb2⟩; have e2 := blk_below e2 hb2; have e4 := blk_below e4 hb2; have HB2 := HBa.trans (hb2.mono HBa.size)))
          | go_in)
        have hRb := Kd.R_base hR2
        have HS2 : Kd.S (Kd.slice 46 k46) 41 w2 w.heap.size (fun k => True ∧ ¬ some k = vcs.ownBlock) u L := Kd.S_mono (Kd.S_below (Kd.S_bound (Kd.S_below HS hb1)) hb2) (fun k hk => ⟨trivial, fun e => by have := hRb k e.symm; have := hk.2.2.1; omega⟩)
        have HRc : Kd.R k46 46 w2 w.heap.size (fun k => some k = vcs.ownBlock) vcs cs := Kd.R_tight rfl (Kd.R_lower hR2 HBa.size)
        have hvu : ∀ k, some k = vcs.ownBlock → True ∧ some k ≠ u.ownBlock := fun k hk => ⟨trivial, fun e => by obtain ⟨c1, h1⟩ := Kd.R_typed HRc k hk.symm; obtain ⟨c2, h2⟩ := Kd.S_typed HS2 k e.symm; rw [h1] at h2; cases h2⟩
        have hL16 : L.length ≤ 16 := by rw [hLi.out]; omega
        have hw16 : wrap64 (m * 16) = m * 16 := wrap_in (by omega) (by omega)
        have hif : 0 ≤ m * 16 ∧ m * 16 ≤ (r1.length : Int) := ⟨by omega, by omega⟩
        have hCn := Kd.C_drop (m := (m * 16).toNat) (c := c1) hC1 (by omega) hle1
        replace hCn : Kd.C (Kd.int .u8) w (if c1 = (m * 16).toNat then A1 else A1.map (·.add ((m * 16).toNat * 1))) (r1.drop (m * 16).toNat).length (r1.drop (m * 16).toNat) := hCn
        have hbrn : Aside0 (∀ x ∈ r1.drop (m * 16).toNat, Byte x) := ⟨fun x hx => hbr1.out x (List.mem_of_mem_drop hx)⟩
        have hlen3 : (r1.drop (m * 16).toNat).length ≤ c1 - (m * 16).toNat := by rw [List.length_drop]; omega
        have hlen4 : (r1.drop (m * 16).toNat).length ≤ b.length := by rw [List.length_drop]; omega
        replace hfl := hfl
        clear hTK hlq TB hsm
        obtain ⟨rn, hrn⟩ : ∃ r, r = r1.drop (m * 16).toNat := ⟨_, rfl⟩
        obtain ⟨An, hAn⟩ : ∃ X, X = (if c1 = (m * 16).toNat then A1 else A1.map (·.add ((m * 16).toNat * 1))) := ⟨_, rfl⟩
        obtain ⟨cn, hcn⟩ : ∃ k, k = c1 - (m * 16).toNat := ⟨_, rfl⟩
        have hsv : Value.slice (if c1 = (m * 16).toNat then A1 else Option.map (fun x => x.add (m * 16).toNat) A1) (r1.length - (m * 16).toNat) (c1 - (m * 16).toNat) = Value.slice An rn.length cn := by rw [hAn, hrn, hcn, List.length_drop, Nat.mul_one]
        rw [← hAn, ← hrn] at hCn
        rw [← hrn] at hbrn hlen3 hlen4 hp2
        rw [← hcn] at hlen3
        replace hAn := Aside0.mk hAn
        replace hcn := Aside0.mk hcn
        replace hrn := Aside0.mk hrn
        obtain ⟨Lv, hLv⟩ : ∃ l, l = L ++ [cs] := ⟨_, rfl⟩
        rw [← hLv] at hp2
        have hLcn : Aside0 (∀ t ∈ Lv, t.length ≤ 4096 ∧ ∀ x ∈ t, okX x ∧ U64 x) := by
          constructor
          intro t ht
          rw [hLv] at ht
          rcases List.mem_append.mp ht with h | h
          · exact hLc.out t h
          · rw [List.mem_singleton.mp h]
            exact ⟨by have := hcl.out; omega, hcs.out⟩
        replace hLv := Aside0.mk hLv
        obtain ⟨Av, cv, ev⟩ := Kd.R_slice HRc
        subst ev
        have HS2 := Kd.S_drew HS2
        have HRc := Kd.R_drew HRc
        have e2 := blk_drew e2
        have e4 := blk_drew e4
        have HB2 := below_drew1 HB2
        have hx4 : w2.drew.cell? ⟨B4, 2, none⟩ = some u := (blk_cell e4 2).trans rfl
        refine start_ (n := 12) (S := fun w' => w'.cell? ⟨B4, 2, none⟩ = some u) (ds := [10]) #[false, false, false, false, false, false, false, false, false, false, false, false] (by kernel_rfl) rfl rfl hx4 (fun hHeld => ?_); refine with_tabW idec.tab21 idec.bits21 (fun HT_ HW_ => ?_)
        clear hx4
        generalize w2.drew = w3 at HS2 HRc e2 e4 HB2 hHeld ⊢
        refine pure_ (i := 0) (N := some 70) (v := ?_) (a' := ?_) #[true, false, false, false, false, false, false, false, false, false, false, false] rfl rfl (any_of HT_.out (by kernel_rfl)) (fun _ _ _ h => h) (Or.inl ⟨by first | rfl | kernel_rfl, ?_⟩) ?_ ?_
        rotate_left
        · intro w'
          go_simp
          with_reducible rfl
        rotate_left
        · simp only [Act.put, q1_, q2_, q3_, i64_w, i32_w]
          rfl
        refine pure_ (i := 2) (N := some 72) (v := ?_) (a' := ?_) #[true, false, true, false, false, false, false, false, false, false, false, false] rfl rfl (any_of HT_.out (by kernel_rfl)) (fun _ _ _ h => h) (Or.inl ⟨by first | rfl | kernel_rfl, ?_⟩) ?_ ?_
        rotate_left
        · intro w'
          go_simp
          with_reducible rfl
        rotate_left
        · simp only [Act.put, q1_, q2_, q3_, i64_w, i32_w]
          rfl
        refine pure_ (i := 5) (N := some 75) (v := ?_) (a' := ?_) #[true, false, true, false, false, true, false, false, false, false, false, false] rfl rfl (any_of HT_.out (by kernel_rfl)) (fun _ _ _ h => h) (Or.inl ⟨by first | rfl | kernel_rfl, ?_⟩) ?_ ?_
        rotate_left
        · intro w'
          go_simp
          with_reducible rfl
        rotate_left
        · simp only [Act.put, q1_, q2_, q3_, i64_w, i32_w]
          rfl
        refine pure_ (i := 6) (N := some 76) (v := ?_) (a' := ?_) #[true, false, true, false, false, true, true, false, false, false, false, false] rfl rfl (any_of HT_.out (by kernel_rfl)) (fun _ _ _ h => h) (Or.inl ⟨by first | rfl | kernel_rfl, ?_⟩) ?_ ?_
        rotate_left
        · intro w'
          go_simp
          with_reducible rfl
        rotate_left
        · simp only [Act.put, q1_, q2_, q3_, i64_w, i32_w]
          rfl
        refine pure_ (i := 7) (N := some 77) (v := ?_) (a' := ?_) #[true, false, true, false, false, true, true, true, false, false, false, false] rfl rfl (any_of HT_.out (by kernel_rfl)) (fun _ _ _ h => h) (Or.inl ⟨by first | rfl | kernel_rfl, ?_⟩) ?_ ?_
        rotate_left
        · intro w'
          go_simp
          rw [i64_w, hw16]
        rotate_left
        · simp only [Act.put, q1_, q2_, q3_, i64_w, i32_w]
          rfl
        refine pure_ (i := 8) (N := some 78) (v := ?_) (a' := ?_) #[true, false, true, false, false, true, true, true, true, false, false, false] rfl rfl (any_of HT_.out (by kernel_rfl)) (fun _ _ _ h => h) (Or.inl ⟨by first | rfl | kernel_rfl, ?_⟩) ?_ ?_
        rotate_left
        · intro w'
          go_simp
          with_reducible rfl
        rotate_left
        · simp only [Act.put, q1_, q2_, q3_, i64_w, i32_w]
          rfl
        refine take_ (i := 1) (N := some 71) (v := ?_) (a' := ?_) #[true, true, true, false, false, true, true, true, true, false, false, false] rfl rfl (take_ofW HT_.out HW_.out (by kernel_rfl)) (fun _ _ _ h => h) (Or.inl ⟨by first | rfl | kernel_rfl, ?_⟩) hHeld ?_ ?_
        rotate_left
        · intro w' s0
          go_simp
          with_reducible rfl
        rotate_left
        · simp only [Act.put, q1_, q2_, q3_, i64_w, i32_w]
          rfl
        refine one_ (i := 3) (N := some 73) #[true, true, true, true, false, true, true, true, true, false, false, false] rfl rfl (one_of HT_.out (by kernel_rfl)) (by decide) (fun K hK => ?_)
        refine value_ (w1 := ?_) (v := ?_) (by rfl) rfl ?_ ?_
        rotate_left 2
        · go_simp
          constructor
          · rfl
          · rfl
        refine hK.out _ _ ((blk_cell (blk_alloc e4 _) 2).trans rfl) (fun hHeld => ?_)
        clear hK K
        refine norm_ (a' := ?_) ?_ ?_
        rotate_left
        · show Act.put _ (some 73) _ = _
          simp only [Act.put, q1_, q2_, q3_, i64_w, i32_w]
          rfl
        refine one_ (i := 4) (N := some 74) #[true, true, true, true, true, true, true, true, true, false, false, false] rfl rfl (one_of HT_.out (by kernel_rfl)) (by decide) (fun K hK => ?_)
        refine Kd.S_append_step (Kd.slice 46 k46) (w0 := w) w.heap.size (by rfl) (.tmp 71) (.tmp 73) 22 41 (.slice none 0 0) 24 rfl Try.underlying22 info41 rfl (by decide) (by omega) u L cs [.slice Av cs.length cv] (fun _ => True) (fun k_ => some k_ = (.slice Av cs.length cv : Value).ownBlock) rfl rfl ?aP hvu ?aF ?aO ?aB ?aS ?aL ?_
        (case aP => exact Kd.M_row HRc)
        (case aB => exact HB2)
        (case aF => exact (fun _ _ => trivial))
        (case aO => exact HS2)
        (case aS => exact HB2.size)
        (case aL => omega)
        intro v4 w4 ho hb hg hat
        rw [← hLv.out] at ho
        have e2 := blk_grown e2 hg (Kd.S_ne HS2 e2 (by decide))
        have e4 := blk_grown e4 hg (Kd.S_ne HS2 e4 (by decide))
        have HB4 := hb
        obtain ⟨Ao, co, eo⟩ := Kd.S_slice ho
        subst eo
        refine hK.out _ _ ((blk_cell e4 2).trans rfl) (fun hHeld => ?_)
        clear hK K
        refine norm_ (a' := ?_) ?_ ?_
        rotate_left
        · show Act.put _ (some 74) _ = _
          simp only [Act.put, q1_, q2_, q3_, i64_w, i32_w]
          rfl
        refine pure_ (i := 9) (N := some 79) (v := ?_) (a' := ?_) #[true, true, true, true, true, true, true, true, true, true, false, false] rfl rfl (any_of HT_.out (by kernel_rfl)) (fun _ _ _ h => h) (Or.inl ⟨by first | rfl | kernel_rfl, ?_⟩) ?_ ?_
        rotate_left
        · intro w'
          go_simp
          with_reducible rfl
        rotate_left
        · simp only [Act.put, q1_, q2_, q3_, i64_w, i32_w]
          rfl
        refine last_ (i := 10) (N := none) #[true, true, true, true, true, true, true, true, true, true, true, false] rfl rfl (one_of HT_.out (by kernel_rfl)) (by decide) (fun K hK => ?_)
        have hs4 : w4.cell? ⟨B4, 2, none⟩ = some u := (blk_cell e4 2).trans rfl
        have hf4 := blk_frozen e4 2
        refine skip_ (w1 := ?_) (by rfl) rfl ?_ ?_
        rotate_left
        · go_simp
          rfl
        refine hK.out _ _ ?_
        clear hK K
        refine pure_ (i := 11) (N := some 0) (v := ?_) (a' := ?_) #[true, true, true, true, true, true, true, true, true, true, true, true] rfl rfl (any_of HT_.out (by kernel_rfl)) (fun _ _ _ h => h) (Or.inl ⟨by first | rfl | kernel_rfl, ?_⟩) ?_ ?_
        rotate_left
        · intro w'
          go_simp
          with_reducible rfl
        rotate_left
        · simp only [Act.put, q1_, q2_, q3_, i64_w, i32_w]
          rfl
        refine done_ (done_of HT_.out (by kernel_rfl)) ?_
        clear HT_ HW_
        go_wp2
        go_roundw
        case rel => exact ⟨i + 1, Lv, rn, An, cn, _, rfl, by first | rfl | go_num, by omega, ⟨by rw [hLv.out, List.length_append, hLi.out]; rfl⟩, hp2, hLcn, hbrn, hCn, hlen3, hlen4, Kd.S_mono (Kd.S_far (p := ⟨B4, 2, none⟩) (Kd.S_types ho e4 (by decide)) (fun _ hk => hk.2) (.slice Ao Lv.length co)) (fun _ hk => trivial), blk_far (p := ⟨B4, 2, none⟩) e2 n24 _, blk_put (cs' := #[.int .i64 v0, .int .i64 v1, .slice Ao Lv.length co]) e4 2 _ rfl, HB4.setCell g4 _⟩
        case measure => simp [intOf]; omega
    · obtain rfl : i = n := by omega
      have hlast : ∀ h : rest ≠ [] ∨ ¬ imS v0 v1 L, NoIm b := fun h => no_last hp.out v00 v01 v10 v11 hn0 hn1 hcod.out (by rw [hLi.out]) h
      replace hlast := Aside0.mk hlast
      by_cases hr0 : rest.length = 0
      · obtain ⟨V, cv, eu, hcv, hCV⟩ := Kd.S_reads HS
        subst eu
        have hu4 : ∀ t ∈ L, t.length ≤ 9223372036854775807 := fun t ht => by have := (hLc.out t ht).1; omega
        replace hu4 := Aside0.mk hu4
        obtain ⟨km, hkm⟩ : ∃ k, image_May.f k v0 v1 L = some (decide (imS v0 v1 L)) := Ev.rounds (imay_ev v0 v1 L hu4.out)
        have x40 := blk_cell e4 0
        have x41 := blk_cell e4 1
        have x42 := blk_cell e4 2
        by_cases him : imS v0 v1 L
        · rw [decide_eq_true him] at hkm
          replace him := Aside0.mk him
          have TM := image_May.calls km v0 v1 V cv L true wr hCV hcv hkm
          replace hkm := Aside0.mk hkm
          go_wp2_with (first
            | (go_at_call 10; go_loud (refine TM.mono ?_; rintro e w1 ⟨rfl, hb1⟩; have e2 := blk_below e2 hb1; have e4 := blk_below e4 hb1; have HBa := HB.trans (hb1.mono HB.size); have HS := Kd.S_below HS hb1; have y40 := blk_cell e4 0; have y41 := blk_cell e4 1; have y42 := blk_cell e4 2; have z0 : w1.cell? ⟨B2, 0, none⟩ = some (.int .i64 0) := (blk_cell e2 0).trans rfl; have z1 : w1.cell? ⟨B2, 1, none⟩ = some (.int .i64 0) := (blk_cell e2 1).trans rfl; have z2 : w1.cell? ⟨B2, 2, none⟩ = some (.slice none 0 0) := (blk_cell e2 2).trans rfl; have fz0 := blk_frozen e2 0; have fz1 := blk_frozen e2 1; have fz2 := blk_frozen e2 2))
            | go_in)
          refine bodyPost_ret (v := .tuple #[.agg #[.int .i64 v0, .int .i64 v1, .slice V L.length cv], .bool true]) ?_ rfl ⟨?_, .inl ⟨v0, v1, L, V, cv, rfl, him.out, fun t ht x hx => ((hLc.out t ht).2 x hx).2, ?_, hcv, ?_⟩⟩
          · simp [results, Try.results13, go_sem, *]
          · repeat (first | exact HBa | refine Below.setCell ?_ (by assumption) _)
          · have := hp.out
            unfold Pre at this
            unfold imB
            rw [this, List.length_eq_zero_iff.mp hr0, hLi.out]
            simp [List.append_assoc]
          · have HF := Kd.S_far (p := ⟨B2, 2, none⟩) (Kd.S_far (p := ⟨B2, 1, none⟩) (Kd.S_far (p := ⟨B2, 0, none⟩) (Kd.S_types HS e2 (by decide)) (fun _ hk => hk.2) (.int .i64 v0)) (fun _ hk => hk.2) (.int .i64 v1)) (fun _ hk => hk.2) (.slice V L.length cv)
            obtain ⟨V2, cv2, e2v, _, hC2⟩ := Kd.S_reads HF
            cases e2v
            exact hC2
        · have hno : NoIm b := hlast.out (.inr him)
          rw [decide_eq_false him] at hkm
          replace him := Aside0.mk him
          have TM := image_May.calls km v0 v1 V cv L false wr hCV hcv hkm
          replace hkm := Aside0.mk hkm
          go_wp2_with (first
            | (go_at_call 10; go_loud (refine TM.mono ?_; rintro e w1 ⟨rfl, hb1⟩; have e2 := blk_below e2 hb1; have e4 := blk_below e4 hb1; have HBa := HB.trans (hb1.mono HB.size); have HS := Kd.S_below HS hb1; have y40 := blk_cell e4 0; have y41 := blk_cell e4 1; have y42 := blk_cell e4 2; have z0 : w1.cell? ⟨B2, 0, none⟩ = some (.int .i64 0) := (blk_cell e2 0).trans rfl; have z1 : w1.cell? ⟨B2, 1, none⟩ = some (.int .i64 0) := (blk_cell e2 1).trans rfl; have z2 : w1.cell? ⟨B2, 2, none⟩ = some (.slice none 0 0) := (blk_cell e2 2).trans rfl; have fz0 := blk_frozen e2 0; have fz1 := blk_frozen e2 1; have fz2 := blk_frozen e2 2))
            | go_in)
          refine bodyPost_ret (v := .tuple #[.agg #[.int .i64 0, .int .i64 0, .slice none 0 0], .bool false]) ?_ rfl ⟨?_, .inr ⟨rfl, hno⟩⟩
          · simp [results, Try.results13, go_sem, *]
          · repeat (first | exact HBa | refine Below.setCell ?_ (by assumption) _)
      · have hno : NoIm b := hlast.out (.inl (fun e => hr0 (by rw [e]; rfl)))
        have hri : 0 < rest.length := by omega
        clear hr0
        have z0 : wr.cell? ⟨B2, 0, none⟩ = some (.int .i64 0) := (blk_cell e2 0).trans rfl
        have z1 : wr.cell? ⟨B2, 1, none⟩ = some (.int .i64 0) := (blk_cell e2 1).trans rfl
        have z2 : wr.cell? ⟨B2, 2, none⟩ = some (.slice none 0 0) := (blk_cell e2 2).trans rfl
        have fz0 := blk_frozen e2 0
        have fz1 := blk_frozen e2 1
        have fz2 := blk_frozen e2 2
        go_wp2
        refine bodyPost_ret (v := .tuple #[.agg #[.int .i64 0, .int .i64 0, .slice none 0 0], .bool false]) ?_ rfl ⟨?_, .inr ⟨rfl, hno⟩⟩
        · simp [results, Try.results13, go_sem, *]
        · repeat (first | exact HB | refine Below.setCell ?_ (by assumption) _)
end Go.Proofs.Yteajbeajkplplaa.Pure
