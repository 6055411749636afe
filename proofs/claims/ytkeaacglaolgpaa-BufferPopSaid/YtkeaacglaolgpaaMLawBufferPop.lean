/-
The statement BufferPop: writes come out in the order in which they went in. The law walked by hand, by the contracts of Pop and same that the print of BufferPush's texts has; its loop by what the rest reads as at each round. Condition: none beyond the given row's.
-/
import Derived.Test.YtkeaacglaolgpaaRows
import Derived.Test.YtkeaacglaolgpaaPureBufferPush
import Derived.Test.YtkeaacglaolgpaaOpens
import Derived.WalkKit
import Derived.ProofKit
import Derived.OpenShut
import Derived.ShutString
import Derived.ChangeOld
import Derived.Below
import Derived.SizedLaws
import Derived.Lib.SmallJoins
import Derived.Deep.RegionWith
set_option linter.unusedVariables false
set_option linter.unusedSimpArgs false
namespace Go.Proofs.Ytkeaacglaolgpaa.MPop
open Go.RowKit Go.Proofs.YtkeaacglaolgpaaW.PrintWords Go.Proofs.YtkeaacglaolgpaaW.PrintLast Go.Proofs.YtkeaacglaolgpaaW.PrintMore
open Go.Proofs.Ytkeaacglaolgpaa.Kit Go.Proofs.Ytkeaacglaolgpaa.PBufferPush Go.Proofs.Ytkeaacglaolgpaa.Pure
theorem awake_c (w : World) : Calls Try.prog 9 #[] w fun e w' => e = .returned (.bool true) ∧ Below w.heap.size w w' :=
  tautochronelaw22_awake.calls 9 true w awake_some
theorem pop_at (b : List S26) (q : Nat) (h : q < b.length) (hl : b.length ≤ 8796093021952) : buffer_Pop.f (b.drop q) = some (b[q].f0, b[q].f1, b.drop (q + 1), true) := by
  have hd : (b.drop q).length = b.length - q := List.length_drop
  unfold buffer_Pop.f
  rw [if_neg (by rw [hd]; omega), if_pos (by rw [hd]; omega), if_pos (by rw [hd]; omega)]
  simp only [Option.bind_some, List.length_nil, Nat.zero_add, List.nil_append, List.drop_drop]
  rw [if_pos (by rw [List.length_drop]; omega)]
  have hr : rd_T26 (b.drop q) 0 = b[q] := by
    have := rdT_get (b.drop q) 0 (by rw [hd]; omega)
    simpa using this
  rw [hr]
theorem pop_none : buffer_Pop.f [] = some (0, 0, [], false) := by simp [buffer_Pop.f]
theorem same_self (b : List S26) (hl : b.length ≤ 17592186044416) : ∃ k, tautochronelaw22_same.f k b b = some true := Ev.rounds (same_ev b hl)
def pop.T8 : Bool × List (List Nat × List Nat) := (true, [([], []), ([0], [0]), ([1], [1]), ([2], [2]), ([2], [2]), ([2], [2]), ([4, 5, 2], [2, 4, 5]), ([6, 2], [2, 6]), ([3, 7, 2], [2, 3, 7]), ([2, 8], [2, 8]), ([9, 2], [9]), ([10], [10]), ([10], [10]), ([10], [10]), ([13, 10], [10, 13]), ([12, 14, 10], [10, 12, 14]), ([11, 15, 10, 10], [10, 11, 15]), ([16, 10], [10, 16]), ([10, 17], [10, 17])])
def pop.B8 : List Nat := [0, 1, 3, 7, 7, 7, 55, 119, 255, 511, 1023, 2047, 2047, 2047, 10239, 30719, 65535, 131071, 262143]
theorem pop.tab8 : rtab .any (opsOf Try.f5 8) = pop.T8 := by kernel_rfl
theorem pop.bits8 : waitsOk pop.T8.2 pop.B8 = true := by kernel_rfl
set_option maxHeartbeats 400000 in
set_option maxRecDepth 100000 in
theorem law.calls (A0 : Option Addr) (c0 : Nat) (l0 : List S26) (w : World) (hr0 : Kd.C k26 w A0 l0.length l0) (hc0 : l0.length ≤ c0) (hl : l0.length ≤ 8796093021952) :
    Calls Try.prog 5 #[.slice A0 l0.length c0] w fun e w' => e = .returned (.bool true) ∧ Below w.heap.size w w' := by
  go_enter Try.func5, Try.ntmps5
  go_wp2_with (first
    | (go_at_call 9; refine (awake_c w).mono ?_; rintro e w1 ⟨rfl, hb1⟩)
    | go_in)
  go_loopw [3, 16] (fun r i wr => ∃ q : Nat, q ≤ l0.length ∧ i = .int .i64 q ∧ (∃ A c L, r = .slice A L.length c ∧ Aside0 (L = l0.drop q) ∧ L.length ≤ c ∧ Kd.C k26 wr A L.length L) ∧ Below w.heap.size w wr)
    (fun _ i _ => l0.length - (intOf i).toNat)
  case atStart => exact ⟨0, by omega, rfl, ⟨A0, c0, l0, rfl, ⟨rfl⟩, hc0, Kd.C_below hr0 hb1⟩, hb1⟩
  case round =>
    obtain ⟨q, hq, rfl, ⟨A, c, L, rfl, hLq, hcc, hC⟩, HB⟩ := hrel
    by_cases hql : q < l0.length
    · obtain ⟨ad, rfl, x0, x1⟩ := at_T26 hr0 q (by omega) (by omega)
      rw [rdT_get l0 q hql, Int.toNat_natCast] at x0 x1
      have X0 := (HB.cell (World.block_lt_of_cell? w _ x0)).trans x0
      have X1 := (HB.cell (World.block_lt_of_cell? w _ x1)).trans x1
      obtain ⟨T, hT⟩ : ∃ T, T = l0.drop (q + 1) := ⟨_, rfl⟩
      have hpop : buffer_Pop.f L = some (l0[q].f0, l0[q].f1, T, true) := by rw [hLq.out, hT]; exact pop_at l0 q hql hl
      have hTl : T.length = l0.length - (q + 1) := by rw [hT, List.length_drop]
      obtain ⟨i0, hi0, _, hsz0, _⟩ := info_parts info26
      have hcut0 := fun wx : World => cut_from (P := Try.prog) 22 26 .i64 Try.underlying22 hi0 2 hsz0 (some ad) l0.length c0 ((q : Int) + 1) (by omega) (by omega) wx
      have hC3 := Kd.C_drop (m := q + 1) (c := c0) hr0 (by omega) hc0
      rw [← hT] at hC3
      obtain ⟨A3, hA3⟩ : ∃ A3, A3 = (if c0 = q + 1 then (some ad) else ((some ad) : Option Addr).map (·.add ((q + 1) * 2))) := ⟨_, rfl⟩
      obtain ⟨c3, hc3⟩ : ∃ c3, c3 = c0 - (q + 1) := ⟨_, rfl⟩
      replace hC3 : Kd.C k26 w A3 T.length T := by rw [hA3]; exact hC3
      have hcut : ∀ wx : World, (Instr.slice 22 (.slice (some ad) l0.length c0) (some (.int .i64 ((q : Int) + 1))) none none).run Try.prog wx = .ok (.slice A3 T.length c3) wx := by
        intro wx
        rw [hcut0 wx, show ((q : Int) + 1).toNat = q + 1 by omega, hTl, hA3, hc3]
      have hTc : T.length ≤ c3 := by rw [hTl, hc3]; omega
      obtain ⟨ks, hks⟩ := same_self T (by rw [hTl]; omega)
      replace hT := Aside0.mk hT
      replace hTl := Aside0.mk hTl
      replace hTc := Aside0.mk hTc
      replace hC3 := Aside0.mk hC3
      clear hcut0 hA3 hc3 hi0 hsz0
      go_upto_region 8 with (first
        | (go_at_call 13; refine (buffer_Pop.calls A c L l0[q].f0 l0[q].f1 T true wr hC hcc hpop).mono ?_; rintro e w2 ⟨v2, rfl, hR, hb2⟩; obtain ⟨A2, c2, rfl, hc2, hC2⟩ := Kd.R_reads hR)
        | go_in)
      have Y0 := (hb2.cell (World.block_lt_of_cell? wr _ X0)).trans X0
      have Y1 := (hb2.cell (World.block_lt_of_cell? wr _ X1)).trans X1
      have Z0 := ((Below.refl w2.heap.size w2).alloc (Nat.le_refl _) (Obj.cells #[.int .i64 l0[q].f0, .int .u64 l0[q].f1] 26 (0, 0))).cell (World.block_lt_of_cell? w2 _ Y0) |>.trans Y0
      have Z1 := ((Below.refl w2.heap.size w2).alloc (Nat.le_refl _) (Obj.cells #[.int .i64 l0[q].f0, .int .u64 l0[q].f1] 26 (0, 0))).cell (World.block_lt_of_cell? w2 _ Y1) |>.trans Y1
      have H3 : Kd.C k26 w2 A3 T.length T := Kd.C_below (Kd.C_below hC3.out HB) hb2
      have HB2 : Below w.heap.size w w2 := HB.trans (hb2.mono HB.size)
      have hwr : wrap64 ((q : Int) + 1) = (q : Int) + 1 := wrap_in (by omega) (by omega)
      have e8 : (w2.alloc (Obj.cells #[.int .i64 l0[q].f0, .int .u64 l0[q].f1] 26 (0, 0))).heap[w2.heap.size]? = some (Obj.cells #[.int .i64 l0[q].f0, .int .u64 l0[q].f1] 26 (0, 0)) := heap_alloc_new w2 _
      have G2 : Kd.C k26 (w2.alloc (Obj.cells #[.int .i64 l0[q].f0, .int .u64 l0[q].f1] 26 (0, 0))) A2 T.length T := Kd.C_alloc hC2 _
      have G3 : Kd.C k26 (w2.alloc (Obj.cells #[.int .i64 l0[q].f0, .int .u64 l0[q].f1] 26 (0, 0))) A3 T.length T := Kd.C_alloc H3 _
      have HB8 : Below w.heap.size w (w2.alloc (Obj.cells #[.int .i64 l0[q].f0, .int .u64 l0[q].f1] 26 (0, 0))) := HB2.alloc HB2.size _
      generalize hW8' : w2.alloc (Obj.cells #[.int .i64 l0[q].f0, .int .u64 l0[q].f1] 26 (0, 0)) = W7 at e8 G2 G3 HB8 Z0 Z1 ⊢
      generalize hB8 : w2.heap.size = B8 at e8 ⊢
      clear hW8' hB8
      obtain ⟨W8, hW8⟩ : ∃ W8, W8 = W7.drew := ⟨_, rfl⟩
      have E0 : W8.cell? ⟨B8, 0, none⟩ = some (.int .i64 l0[q].f0) := by rw [hW8]; show W7.cell? _ = _; simp [World.cell?, e8]
      have E1 : W8.cell? ⟨B8, 1, none⟩ = some (.int .u64 l0[q].f1) := by rw [hW8]; show W7.cell? _ = _; simp [World.cell?, e8]
      have E2 : W8.cell? (ad.add (q * 2)) = some (.int .i64 l0[q].f0) := by rw [hW8]; exact Z0
      have E3 : W8.cell? ⟨(ad.add (q * 2)).block, (ad.add (q * 2)).off + 1, none⟩ = some (.int .u64 l0[q].f1) := by rw [hW8]; exact Z1
      have G2 : Kd.C k26 W8 A2 T.length T := by rw [hW8]; exact Kd.C_drew G2
      have G3 : Kd.C k26 W8 A3 T.length T := by rw [hW8]; exact Kd.C_drew G3
      have HB8 : Below w.heap.size w W8 := by rw [hW8]; exact HB8.drew
      have b0l := World.block_lt_of_cell? W8 _ E0
      have bql := World.block_lt_of_cell? W8 _ E2
      refine start_ (n := 19) (S := fun w' => w'.cell? ⟨B8, 0, none⟩ = some (.int .i64 l0[q].f0) ∧ w'.cell? ⟨B8, 1, none⟩ = some (.int .u64 l0[q].f1) ∧ w'.cell? (ad.add (q * 2)) = some (.int .i64 l0[q].f0) ∧ w'.cell? ⟨(ad.add (q * 2)).block, (ad.add (q * 2)).off + 1, none⟩ = some (.int .u64 l0[q].f1)) (ds := []) #[false, false, false, false, false, false, false, false, false, false, false, false, false, false, false, false, false, false, false] (by kernel_rfl) rfl rfl ⟨by rw [← hW8]; exact E0, by rw [← hW8]; exact E1, by rw [← hW8]; exact E2, by rw [← hW8]; exact E3⟩ (fun hHeld => ?_); refine with_tabW pop.tab8 pop.bits8 (fun HT_ HW_ => ?_)
      rw [← hW8] at hHeld ⊢
      refine pure_ (i := 0) (N := some 25) (v := ?_) (a' := ?_) #[true, false, false, false, false, false, false, false, false, false, false, false, false, false, false, false, false, false, false] rfl rfl (any_of HT_.out (by kernel_rfl)) (fun _ _ _ h => h) (Or.inl ⟨by rfl, ?_⟩) ?_ ?_
      rotate_left
      · intro w'
        go_simp
        with_reducible rfl
      rotate_left
      · simp only [Act.put, List.setIfInBounds_toArray, List.set_cons_zero, List.set_cons_succ, i64_w, i32_w]
        rfl
      refine pure_ (i := 1) (N := some 26) (v := ?_) (a' := ?_) #[true, true, false, false, false, false, false, false, false, false, false, false, false, false, false, false, false, false, false] rfl rfl (any_of HT_.out (by kernel_rfl)) (fun _ _ _ h => h) (Or.inl ⟨by rfl, ?_⟩) ?_ ?_
      rotate_left
      · intro w'
        go_simp
        with_reducible rfl
      rotate_left
      · simp only [Act.put, List.setIfInBounds_toArray, List.set_cons_zero, List.set_cons_succ, i64_w, i32_w]
        rfl
      refine pure_ (i := 2) (N := some 27) (v := ?_) (a' := ?_) #[true, true, true, false, false, false, false, false, false, false, false, false, false, false, false, false, false, false, false] rfl rfl (any_of HT_.out (by kernel_rfl)) (fun _ _ _ h => h) (Or.inl ⟨by rfl, ?_⟩) ?_ ?_
      rotate_left
      · intro w'
        go_simp
        with_reducible rfl
      rotate_left
      · simp only [Act.put, List.setIfInBounds_toArray, List.set_cons_zero, List.set_cons_succ, i64_w, i32_w]
        rfl
      refine take_ (i := 3) (N := some 28) (v := ?_) (a' := ?_) #[true, true, true, true, false, false, false, false, false, false, false, false, false, false, false, false, false, false, false] rfl rfl (take_ofW HT_.out HW_.out (by kernel_rfl)) (fun _ _ _ h => h) (Or.inl ⟨by rfl, ?_⟩) hHeld ?_ ?_
      rotate_left
      · rintro w' ⟨s0, s1, s2, s3⟩
        go_simp
        with_reducible rfl
      rotate_left
      · simp only [Act.put, List.setIfInBounds_toArray, List.set_cons_zero, List.set_cons_succ, i64_w, i32_w]
        rfl
      refine pure_ (i := 4) (N := some 29) (v := ?_) (a' := ?_) #[true, true, true, true, true, false, false, false, false, false, false, false, false, false, false, false, false, false, false] rfl rfl (any_of HT_.out (by kernel_rfl)) (fun _ _ _ h => h) (Or.inl ⟨by rfl, ?_⟩) ?_ ?_
      rotate_left
      · intro w'
        go_simp
        with_reducible rfl
      rotate_left
      · simp only [Act.put, List.setIfInBounds_toArray, List.set_cons_zero, List.set_cons_succ, i64_w, i32_w]
        rfl
      refine pure_ (i := 5) (N := some 30) (v := ?_) (a' := ?_) #[true, true, true, true, true, true, false, false, false, false, false, false, false, false, false, false, false, false, false] rfl rfl (any_of HT_.out (by kernel_rfl)) (fun _ _ _ h => h) (Or.inl ⟨by rfl, ?_⟩) ?_ ?_
      rotate_left
      · intro w'
        go_simp
        with_reducible rfl
      rotate_left
      · simp only [Act.put, List.setIfInBounds_toArray, List.set_cons_zero, List.set_cons_succ, i64_w, i32_w]
        rfl
      refine pure_ (i := 6) (N := some 31) (v := ?_) (a' := ?_) #[true, true, true, true, true, true, true, false, false, false, false, false, false, false, false, false, false, false, false] rfl rfl (any_of HT_.out (by kernel_rfl)) (fun _ _ _ h => h) (Or.inl ⟨by rfl, ?_⟩) ?_ ?_
      rotate_left
      · intro w'
        go_simp
        with_reducible rfl
      rotate_left
      · simp only [Act.put, List.setIfInBounds_toArray, List.set_cons_zero, List.set_cons_succ, i64_w, i32_w]
        rfl
      refine take_ (i := 7) (N := some 32) (v := ?_) (a' := ?_) #[true, true, true, true, true, true, true, true, false, false, false, false, false, false, false, false, false, false, false] rfl rfl (take_ofW HT_.out HW_.out (by kernel_rfl)) (fun _ _ _ h => h) (Or.inl ⟨by rfl, ?_⟩) hHeld ?_ ?_
      rotate_left
      · rintro w' ⟨s0, s1, s2, s3⟩
        go_simp
        with_reducible rfl
      rotate_left
      · simp only [Act.put, List.setIfInBounds_toArray, List.set_cons_zero, List.set_cons_succ, i64_w, i32_w]
        rfl
      refine pure_ (i := 8) (N := some 33) (v := ?_) (a' := ?_) #[true, true, true, true, true, true, true, true, true, false, false, false, false, false, false, false, false, false, false] rfl rfl (any_of HT_.out (by kernel_rfl)) (fun _ _ _ h => h) (Or.inl ⟨by rfl, ?_⟩) ?_ ?_
      rotate_left
      · intro w'
        go_simp
        with_reducible rfl
      rotate_left
      · simp only [Act.put, List.setIfInBounds_toArray, List.set_cons_zero, List.set_cons_succ, i64_w, i32_w]
        rfl
      refine pure_ (i := 9) (N := some 34) (v := ?_) (a' := ?_) #[true, true, true, true, true, true, true, true, true, true, false, false, false, false, false, false, false, false, false] rfl rfl (any_of HT_.out (by kernel_rfl)) (fun _ _ _ h => h) (Or.inl ⟨by rfl, ?_⟩) ?_ ?_
      rotate_left
      · intro w'
        go_simp
        with_reducible rfl
      rotate_left
      · simp only [Act.put, List.setIfInBounds_toArray, List.set_cons_zero, List.set_cons_succ, i64_w, i32_w]
        rfl
      refine pure_ (i := 10) (N := some 35) (v := ?_) (a' := ?_) #[true, true, true, true, true, true, true, true, true, true, true, false, false, false, false, false, false, false, false] rfl rfl (any_of HT_.out (by kernel_rfl)) (fun _ _ _ h => h) (Or.inl ⟨by rfl, ?_⟩) ?_ ?_
      rotate_left
      · intro w'
        go_simp
        with_reducible rfl
      rotate_left
      · simp only [Act.put, List.setIfInBounds_toArray, List.set_cons_zero, List.set_cons_succ, i64_w, i32_w]
        rfl
      refine pure_ (i := 11) (N := some 36) (v := ?_) (a' := ?_) #[true, true, true, true, true, true, true, true, true, true, true, true, false, false, false, false, false, false, false] rfl rfl (any_of HT_.out (by kernel_rfl)) (fun _ _ _ h => h) (Or.inl ⟨by rfl, ?_⟩) ?_ ?_
      rotate_left
      · intro w'
        go_simp
        with_reducible rfl
      rotate_left
      · simp only [Act.put, List.setIfInBounds_toArray, List.set_cons_zero, List.set_cons_succ, i64_w, i32_w]
        rfl
      refine pure_ (i := 12) (N := some 37) (v := ?_) (a' := ?_) #[true, true, true, true, true, true, true, true, true, true, true, true, true, false, false, false, false, false, false] rfl rfl (any_of HT_.out (by kernel_rfl)) (fun _ _ _ h => h) (Or.inl ⟨by rfl, ?_⟩) ?_ ?_
      rotate_left
      · intro w'
        go_simp
        with_reducible rfl
      rotate_left
      · simp only [Act.put, List.setIfInBounds_toArray, List.set_cons_zero, List.set_cons_succ, i64_w, i32_w]
        rfl
      refine pure_ (i := 13) (N := some 38) (v := ?_) (a' := ?_) #[true, true, true, true, true, true, true, true, true, true, true, true, true, true, false, false, false, false, false] rfl rfl (any_of HT_.out (by kernel_rfl)) (fun _ _ _ h => h) (Or.inl ⟨by rfl, ?_⟩) ?_ ?_
      rotate_left
      · intro w'
        go_simp
        with_reducible rfl
      rotate_left
      · simp only [Act.put, List.setIfInBounds_toArray, List.set_cons_zero, List.set_cons_succ, i64_w, i32_w]
        rfl
      refine pure_ (i := 14) (N := some 39) (v := ?_) (a' := ?_) #[true, true, true, true, true, true, true, true, true, true, true, true, true, true, true, false, false, false, false] rfl rfl (any_of HT_.out (by kernel_rfl)) (fun _ _ _ h => h) (Or.inl ⟨by rfl, ?_⟩) ?_ ?_
      rotate_left
      · intro w'
        go_simp
        with_reducible rfl
      rotate_left
      · simp only [Act.put, List.setIfInBounds_toArray, List.set_cons_zero, List.set_cons_succ, i64_w, i32_w]
        rfl
      refine pure_ (i := 15) (N := some 40) (v := ?_) (a' := ?_) #[true, true, true, true, true, true, true, true, true, true, true, true, true, true, true, true, false, false, false] rfl rfl (any_of HT_.out (by kernel_rfl)) (fun _ _ _ h => h) (Or.inl ⟨by rfl, ?_⟩) ?_ ?_
      rotate_left
      · intro w'
        go_simp
        with_reducible rfl
      rotate_left
      · simp only [Act.put, List.setIfInBounds_toArray, List.set_cons_zero, List.set_cons_succ, i64_w, i32_w]
        rfl
      refine one_ (i := 16) (N := some 41) #[true, true, true, true, true, true, true, true, true, true, true, true, true, true, true, true, true, false, false] rfl rfl (one_of HT_.out (by kernel_rfl)) (by decide) (fun K hK => ?_)
      refine goes_ Try.func12 (by kernel_rfl) rfl #[.slice A2 T.length c2, .slice A3 T.length c3] (by rfl) rfl rfl (by (try simp only [List.map_toArray, List.map_cons, List.map_nil]); first | done | rfl) ?_
      refine (tautochronelaw22_same.calls ks A2 c2 T A3 c3 T true W8 G2 hc2 G3 hTc.out hks).mono ?_
      rintro e w5 ⟨rfl, hd⟩
      obtain ⟨nd, hd⟩ := hd.out
      refine ⟨_, rfl, ?_⟩
      have bd : Below W8.heap.size W8 w5 := by rw [hd]; exact pw_below_drewN (Below.refl _ _) nd
      refine hK.out _ _ ⟨(bd.cell (by exact b0l)).trans E0, (bd.cell (by exact b0l)).trans E1, (bd.cell (by exact bql)).trans E2, (bd.cell (by exact bql)).trans E3⟩ (fun hHeld => ?_)
      clear hK K
      refine norm_ (a' := ?_) ?_ ?_
      rotate_left
      · show Act.put _ (some 41) _ = _
        simp only [Act.put, List.setIfInBounds_toArray, List.set_cons_zero, List.set_cons_succ, i64_w, i32_w]
        rfl
      refine pure_ (i := 17) (N := some 42) (v := ?_) (a' := ?_) #[true, true, true, true, true, true, true, true, true, true, true, true, true, true, true, true, true, true, false] rfl rfl (any_of HT_.out (by kernel_rfl)) (fun _ _ _ h => h) (Or.inl ⟨by rfl, ?_⟩) ?_ ?_
      rotate_left
      · intro w'
        go_simp
        with_reducible rfl
      rotate_left
      · simp only [Act.put, List.setIfInBounds_toArray, List.set_cons_zero, List.set_cons_succ, i64_w, i32_w]
        rfl
      refine pure_ (i := 18) (N := some 43) (v := ?_) (a' := ?_) #[true, true, true, true, true, true, true, true, true, true, true, true, true, true, true, true, true, true, true] rfl rfl (any_of HT_.out (by kernel_rfl)) (fun _ _ _ h => h) (Or.inl ⟨by rfl, ?_⟩) ?_ ?_
      rotate_left
      · intro w'
        go_simp
        with_reducible rfl
      rotate_left
      · simp only [Act.put, List.setIfInBounds_toArray, List.set_cons_zero, List.set_cons_succ, i64_w, i32_w]
        rfl
      refine done_ (done_of HT_.out (by kernel_rfl)) ?_
      have HB9 : Below w.heap.size w w5 := HB8.trans (bd.mono HB8.size)
      have G4 : Kd.C k26 w5 A2 T.length T := Kd.C_below G2 bd
      clear hd hW8 bd
      go_wp2
      go_roundw
      case rel => exact ⟨q + 1, by omega, by first | rfl | go_num, ⟨A2, c2, T, rfl, hT, hc2, G4⟩, HB9⟩
      case measure => simp [intOf]; omega
    · obtain rfl : q = l0.length := by omega
      have hL0 : L = [] := by rw [hLq.out]; simp
      subst hL0
      go_wp2_with (first
        | (go_at_call 13; refine (buffer_Pop.calls A c [] 0 0 [] false wr hC hcc pop_none).mono ?_; rintro e w2 ⟨v2, rfl, hR, hb2⟩; obtain ⟨A2, c2, rfl, hc2, hC2⟩ := Kd.R_reads hR)
        | go_in)
      go_ret
      exact ⟨rfl, by repeat (first | exact HB.trans (hb2.mono HB.size) | apply below_alloc)⟩
end Go.Proofs.Ytkeaacglaolgpaa.MPop
namespace Go.Proofs.Ytkeaacglaolgpaa.bufferPopRow
open Go.ChangeShapes Go.WideShapes Go.ChangeAt Go.RowKit Go.Joins Go.Proofs.YtkeaacglaolgpaaW.PrintWords
open Go.Proofs.Ytkeaacglaolgpaa.PBufferPush
open Go.ChangeMaps (open_string shut_string)
set_option linter.unusedVariables false
set_option linter.unusedSimpArgs false
theorem own : ownKnob Try.prog.godebug = none := by kernel_rfl
theorem laidOut : laidOutB Try.prog = true := by kernel_rfl
set_option maxRecDepth 100000 in
theorem lifted (os : Os) (started : os.Started) (H : Type) (enc : TypeId × Value → H) :
    ReturnsInHanded {} Try.checked os 5 .any (Rows.bufferPopSpec.pre6 enc Try.prog Try.f5 Rows.bufferPopRow.domain false) (Rows.bufferPopSpec.post enc Try.prog Try.f5 false true false false) := by
  refine returnsInHanded_of_change_sized (C := Try.checked) own started (by kernel_rfl) Try.func5
    (ChangeSpec.witness6 (enc := enc) (C := Try.checked) false ⟨#[], #[.slice none 0 0], []⟩ 8 (by kernel_rfl) (by kernel_rfl) (by kernel_rfl) (by kernel_rfl)) ?_
  intro W base args ds gs before hval0 hW hcnd hsz0 _
  have hsz : (DataW.weightsEach Try.prog (Try.f5.params.toList ++ Rows.bufferPopSpec.plain.varTypes Try.prog) (ds ++ gs)).all (· ≤ reachBytes) = true := hsz0
  have hval : ∀ (j : Nat) t v, Try.f5.params[j]? = some t → args[j]? = some v → Value.okWide Try.prog W .any base t v := hval0
  have hW' := hW
  obtain ⟨p, q, hA0, hV, rfl, hfz, hnd⟩ := hW
  have hA : DataW.TrodAll enc Try.prog W 0 (fun _ => true) true Try.f5.params.toList args.toList ds p := hA0
  rw [Try.params5] at hA hval hsz
  obtain ⟨v0, vs0, d0, ds0, p0, q0, hargs, rfl, rfl, h0, r0⟩ := trodAll_cons hA
  obtain ⟨rfl, rfl, rfl⟩ := trodAll_nil r0
  obtain rfl : args = #[v0] := by cases args; simp_all
  obtain ⟨rfl, rfl⟩ := trodVars_none hV
  obtain ⟨A0, len0, cap0, rfl⟩ := okWide_slice Try.underlying22 (hval 0 22 v0 rfl rfl)
  have k0 := h0
  have lt0 : ∀ x ∈ p0, x.block < W.heap.size := by obtain ⟨m, hm⟩ := k0; exact DataW.trod_lt m _ _ _ hm
  obtain ⟨l0, hl0, hcap0, hm0, hC0, hw0⟩ : ∃ xs : List S26, xs.length = len0 ∧ len0 ≤ cap0 ∧ len0 ≤ maxLen ∧ Kd.C k26 W A0 len0 xs ∧ ∀ x ∈ xs, wf26 x := by
    obtain ⟨fuel, hf⟩ := h0
    exact Opens.reads Try.underlying22 o26 (by simpa [Value.cells] using hf)
  have y0 : len0 * 16 ≤ 140737488351232 := Opens.sized hsz (j := 0) (t := 22) rfl rfl Try.underlying22 (by kernel_rfl) h0
  subst hl0
  clear hA0 hval0 hsz0 hsz
  refine (MPop.law.calls A0 cap0 l0 W hC0 hcap0 (by omega)).mono fun e W' ⟨he, bel0⟩ => ?_
  have bel : Below W.heap.size W W' := bel0
  subst he
  exact ⟨_, rfl, _, _, _, [], _, [], hW', trodAll_mk1 (shut_bool Try.underlying4 _), (trodAll_cons_mk (Below.trod laidOut (by kernel_rfl) (of_decide_eq_true (by kernel_rfl)) k0 bel lt0) trodAll_mk0), rfl, bel.frame _, fun h => by cases h⟩
theorem over : Rows.bufferPopRow.holds Try.pinned (OpenSpec.ofChange Rows.bufferPopSpec) :=
  OpenClaim.holds_of_wide 5 Try.f5 rfl rfl rfl rfl rfl rfl rfl ⟨rfl, rfl, rfl, rfl, rfl⟩ rfl rfl rfl rfl rfl (by kernel_rfl) Try.func5 (by kernel_rfl)
    (of_decide_eq_true (by kernel_rfl)) (by unfold Func.isWrapper; first | (rw [if_pos (by decide +kernel)]; kernel_rfl) | (rw [if_neg (by decide +kernel)]; exact ⟨rfl, rfl⟩))
    (fun os started H enc _ => lifted os started H enc)
theorem proved : Rows.BufferPopSaid := over
end Go.Proofs.Ytkeaacglaolgpaa.bufferPopRow
namespace Go.Proofs.Ytkeaacglaolgpaa
/-- The row, under a short name, for the claim. -/
theorem bufferPop_holds : Rows.BufferPopSaid := bufferPopRow.proved
end Go.Proofs.Ytkeaacglaolgpaa
