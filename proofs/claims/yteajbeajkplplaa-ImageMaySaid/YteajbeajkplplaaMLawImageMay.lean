/-
The law ImageMay walked by hand, by the printed contracts of the functions that it calls: Whether an image may be is what the document says. Conditions: as each theorem states them.
-/
import Derived.Test.YteajbeajkplplaaPureImB
import Derived.Test.YteajbeajkplplaaMImMake
import Derived.Test.YteajbeajkplplaaRows
import Derived.Test.YteajbeajkplplaaOpens
import Derived.WalkKit
import Derived.ProofKit
import Derived.OpenShut
import Derived.ShutString
import Derived.ChangeOld
import Derived.Below
import Derived.SizedLaws
import Derived.Lib.SmallJoins
set_option linter.unusedSimpArgs false
set_option linter.unusedVariables false
namespace Go.Proofs.Yteajbeajkplplaa.Pure
open Go.RowKit Go.Proofs.YteajbeajkplplaaW.PrintWords Go.Proofs.YteajbeajkplplaaW.PrintLast Go.Proofs.YteajbeajkplplaaW.PrintMore Go.Proofs.Yteajbeajkplplaa.Kit
open Go.Proofs.Yteajbeajkplplaa.PImageBytes
attribute [local go_sem] max2_int min2_int max_two min_two max_three min_three max_four min_four   -- for this text's walks alone
def immay.T7 : Bool × List (List Nat × List Nat) := (true, [([], []), ([0], [0]), ([], []), ([2, 1], [2]), ([1, 3], [1, 3]), ([4, 3], [4]), ([5], [5]), ([5], [5]), ([7, 5, 5], [5, 7]), ([6, 8, 5], [5, 6, 8]), ([5, 9], [5, 9]), ([10, 8], [10]), ([11], [11]), ([12, 11, 11], [11, 12]), ([13], [13]), ([14, 13], [13, 14]), ([15, 13], [13, 15]), ([13, 16, 11], [11, 13, 16]), ([11, 17], [11, 17]), ([18, 13, 0, 1, 2, 3, 4, 5, 6, 7, 8, 9, 10, 11, 12, 13, 14, 15, 16, 17, 18], [18])])
def immay.B7 : List Nat := [0, 1, 0, 7, 15, 31, 63, 63, 191, 511, 1023, 2047, 4095, 8191, 16383, 32767, 65535, 131071, 262143, 524287]
theorem immay.tab7 : rtab .any (opsOf Try.f3 7) = immay.T7 := by kernel_rfl
theorem immay.bits7 : waitsOk immay.T7.2 immay.B7 = true := by kernel_rfl
theorem field25 (a b : Int) (A : Option Addr) (n c : Nat) (w : World) : (Instr.field 25 (.agg #[.int .i64 a, .int .i64 b, .slice A n c]) 2).run Try.prog w = .ok (.slice A n c) w := by kernel_rfl
theorem awake_some3 : ∃ k, tautochronelaw21_awake.f k = some true := Ev.rounds iawake_ev
set_option maxHeartbeats 4000000 in
set_option maxRecDepth 100000 in
theorem immay.calls (A0 : Option Addr) (c0 : Nat) (R0 : List (List S46)) (sh ce : Int) (sm : Bool) (w : World) (hr0 : Kd.C (Kd.slice 46 k46) w A0 R0.length R0) (hc0 : R0.length ≤ c0)
    (hl0 : R0.length ≤ 9223372036854775806) (ht0 : ∀ t ∈ R0, t.length ≤ 9223372036854775807) (hu0 : ∀ t ∈ R0, ∀ x ∈ t, U64 x) :
    Calls Try.prog 3 #[.slice A0 R0.length c0, .int .i64 sh, .int .i64 ce, .bool sm] w fun e w' => e = .returned (.bool true) ∧ Below w.heap.size w w' := by
  obtain ⟨ka, hka⟩ := awake_some3
  cases sm with
  | false =>
    obtain ⟨La, hLa⟩ : ∃ La, La = R0 := ⟨_, rfl⟩
    have hlen : ∀ t ∈ La, t.length ≤ 9223372036854775807 := by rw [hLa]; exact ht0
    replace hu0 := Aside0.mk hu0
    replace ht0 := Aside0.mk ht0
    go_enter Try.func3, Try.ntmps3
    go_upto_region 6 with (first
      | (go_at_call 7; refine (tautochronelaw21_awake.calls ka true _ hka).mono ?_; rintro e w1 ⟨rfl, hb1⟩)
      | go_in)
    have e9 := heap_alloc_new w1 (Obj.cells #[.int .i64 sh, .int .i64 ce, .slice A0 R0.length c0] 25 (0, 0))
    have hb5 : Below w1.heap.size w1 (w1.alloc (Obj.cells #[.int .i64 sh, .int .i64 ce, .slice A0 R0.length c0] 25 (0, 0))) := (Below.refl _ _).alloc (Nat.le_refl _) _
    have HB5 := hb1.trans (hb5.mono hb1.size)
    have hCV := Kd.C_below hr0 HB5
    generalize w1.alloc (Obj.cells #[.int .i64 sh, .int .i64 ce, .slice A0 R0.length c0] 25 (0, 0)) = w5 at e9 hb5 HB5 hCV ⊢
    obtain ⟨B9, hB9⟩ : ∃ B, B = w1.heap.size := ⟨_, rfl⟩
    rw [← hB9] at e9 ⊢
    replace hB9 := Aside0.mk hB9
    clear hb1 hb5
    subst hLa
    have hcv := hc0
    generalize A0 = V at e9 hCV ⊢
    generalize c0 = cv at e9 hcv ⊢
    have x0 : w5.cell? ⟨B9, 0, none⟩ = some (.int .i64 sh) := by simp [World.cell?, e9]
    have x1 : w5.cell? ⟨B9, 1, none⟩ = some (.int .i64 ce) := by simp [World.cell?, e9]
    have x2 : w5.cell? ⟨B9, 2, none⟩ = some (.slice V La.length cv) := by simp [World.cell?, e9]
    obtain ⟨km, hkm⟩ : ∃ k, image_May.f k sh ce La = some (decide (imS sh ce La)) := Ev.rounds (imay_ev sh ce La hlen)
    obtain ⟨kl, hkl⟩ : ∃ k, tautochronelaw21_may.f k sh ce La = some (decide (imS sh ce La)) := Ev.rounds (lmay_ev sh ce La hlen)
    obtain ⟨ke, Bm, hke, hBm⟩ : ∃ k B, image_Encode.f k sh ce La = some (B, decide (imS sh ce La)) ∧ (decide (imS sh ce La) = false → B = []) := by
      have := ienc_ev sh ce La hlen
      by_cases h : imS sh ce La
      · rw [if_pos h] at this; obtain ⟨k, hk⟩ := Ev.rounds this; exact ⟨k, _, by rw [decide_eq_true h]; exact hk, fun h2 => by rw [decide_eq_true h] at h2; cases h2⟩
      · rw [if_neg h] at this; obtain ⟨k, hk⟩ := Ev.rounds this; exact ⟨k, _, by rw [decide_eq_false h]; exact hk, fun _ => rfl⟩
    generalize decide (imS sh ce La) = bM at hkm hkl hke hBm
    replace hlen := Aside0.mk hlen
    have TE := image_Encode.calls ke sh ce V cv La Bm bM w5 hCV hcv hke
    go_upto_region 7 with (first
      | (go_at_call 9; refine TE.mono ?_; rintro e w7 ⟨vb, rfl, hRb, hb7⟩)
      | go_in)
    clear TE x0 x1 x2
    have e9 := (hb7.block B9 (Array.getElem?_eq_some_iff.mp e9).1).trans e9
    have HB7 := HB5.trans (hb7.mono HB5.size)
    have hCV := Kd.C_below hCV hb7
    clear HB5 hb7
    obtain ⟨Ub, cub, rfl, hcub, hCUb⟩ := Kd.R_reads hRb
    clear hRb
    have lB9 : B9 < w7.heap.size := (Array.getElem?_eq_some_iff.mp e9).1
    have x0 : w7.cell? ⟨B9, 0, none⟩ = some (.int .i64 sh) := by simp [World.cell?, e9]
    have x1 : w7.cell? ⟨B9, 1, none⟩ = some (.int .i64 ce) := by simp [World.cell?, e9]
    have x2 : w7.cell? ⟨B9, 2, none⟩ = some (.slice V La.length cv) := by simp [World.cell?, e9]
    cases bM with
    | true =>
      clear hBm
      refine start_ (n := 20) (S := fun w' => Below w7.heap.size w7 w') (ds := []) #[false, false, false, false, false, false, false, false, false, false, false, false, false, false, false, false, false, false, false, false] (by kernel_rfl) rfl rfl (below_drew (Below.refl _ _)) (fun hHeld => ?_); refine with_tabW immay.tab7 immay.bits7 (fun HT_ HW_ => ?_)
      refine take_ (i := 0) (N := some 28) (v := ?_) (a' := ?_) #[true, false, false, false, false, false, false, false, false, false, false, false, false, false, false, false, false, false, false, false] rfl rfl (take_ofW HT_.out HW_.out (by kernel_rfl)) (fun _ _ _ h => h) (Or.inl ⟨by first | rfl | kernel_rfl, ?_⟩) hHeld ?_ ?_
      rotate_left
      · intro w' s0
        have z0 := (s0.cell (by exact lB9)).trans x0
        have z1 := (s0.cell (by exact lB9)).trans x1
        have z2 := (s0.cell (by exact lB9)).trans x2
        go_simp
        with_reducible rfl
      rotate_left
      · simp only [Act.put, List.setIfInBounds_toArray, List.set_cons_zero, List.set_cons_succ, i64_w, i32_w]
        rfl
      refine take_ (i := 2) (N := some 30) (v := ?_) (a' := ?_) #[true, false, true, false, false, false, false, false, false, false, false, false, false, false, false, false, false, false, false, false] rfl rfl (take_ofW HT_.out HW_.out (by kernel_rfl)) (fun _ _ _ h => h) (Or.inl ⟨by first | rfl | kernel_rfl, ?_⟩) hHeld ?_ ?_
      rotate_left
      · intro w' s0
        have z0 := (s0.cell (by exact lB9)).trans x0
        have z1 := (s0.cell (by exact lB9)).trans x1
        have z2 := (s0.cell (by exact lB9)).trans x2
        go_simp
        with_reducible rfl
      rotate_left
      · simp only [Act.put, List.setIfInBounds_toArray, List.set_cons_zero, List.set_cons_succ, i64_w, i32_w]
        rfl
      refine one_ (i := 1) (N := some 29) #[true, true, true, false, false, false, false, false, false, false, false, false, false, false, false, false, false, false, false, false] rfl rfl (one_of HT_.out (by kernel_rfl)) (by decide) (fun K hK => ?_)
      refine goes_ Try.func10 (by kernel_rfl) rfl #[.agg #[.int .i64 sh, .int .i64 ce, .slice V La.length cv]] (by first | rfl | kernel_rfl) rfl rfl (by first | rfl | kernel_rfl) ?_
      refine (image_May.calls km sh ce V cv La true _ (Kd.C_below hCV hHeld) hcv hkm).mono ?_
      rintro e w8 ⟨rfl, hb8⟩
      have hHeld := hHeld.trans (hb8.mono hHeld.size)
      refine ⟨_, rfl, hK.out _ _ hHeld (fun hHeld => ?_)⟩
      clear hK K
      refine norm_ (a' := ?_) ?_ ?_
      rotate_left
      · show Act.put _ (some 29) _ = _
        simp only [Act.put, List.setIfInBounds_toArray, List.set_cons_zero, List.set_cons_succ, i64_w, i32_w]
        rfl
      refine one_ (i := 3) (N := some 31) #[true, true, true, true, false, false, false, false, false, false, false, false, false, false, false, false, false, false, false, false] rfl rfl (one_of HT_.out (by kernel_rfl)) (by decide) (fun K hK => ?_)
      refine goes_ Try.func11 (by kernel_rfl) rfl #[.agg #[.int .i64 sh, .int .i64 ce, .slice V La.length cv]] (by first | rfl | kernel_rfl) rfl rfl (by first | rfl | kernel_rfl) ?_
      refine (tautochronelaw21_may.calls kl sh ce V cv La true _ (Kd.C_below hCV hHeld) hcv hkl).mono ?_
      rintro e w8 ⟨rfl, hb8⟩
      have hHeld := hHeld.trans (hb8.mono hHeld.size)
      refine ⟨_, rfl, hK.out _ _ hHeld (fun hHeld => ?_)⟩
      clear hK K
      refine norm_ (a' := ?_) ?_ ?_
      rotate_left
      · show Act.put _ (some 31) _ = _
        simp only [Act.put, List.setIfInBounds_toArray, List.set_cons_zero, List.set_cons_succ, i64_w, i32_w]
        rfl
      refine pure_ (i := 4) (N := some 32) (v := ?_) (a' := ?_) #[true, true, true, true, true, false, false, false, false, false, false, false, false, false, false, false, false, false, false, false] rfl rfl (any_of HT_.out (by kernel_rfl)) (fun _ _ _ h => h) (Or.inl ⟨by first | rfl | kernel_rfl, ?_⟩) ?_ ?_
      rotate_left
      · intro w'
        go_simp
        with_reducible rfl
      rotate_left
      · simp only [Act.put, List.setIfInBounds_toArray, List.set_cons_zero, List.set_cons_succ, i64_w, i32_w]
        rfl
      refine pure_ (i := 5) (N := some 33) (v := ?_) (a' := ?_) #[true, true, true, true, true, true, false, false, false, false, false, false, false, false, false, false, false, false, false, false] rfl rfl (any_of HT_.out (by kernel_rfl)) (fun _ _ _ h => h) (Or.inl ⟨by first | rfl | kernel_rfl, ?_⟩) ?_ ?_
      rotate_left
      · intro w'
        go_simp
        with_reducible rfl
      rotate_left
      · simp only [Act.put, List.setIfInBounds_toArray, List.set_cons_zero, List.set_cons_succ, i64_w, i32_w]
        rfl
      refine pure_ (i := 6) (N := some 34) (v := ?_) (a' := ?_) #[true, true, true, true, true, true, true, false, false, false, false, false, false, false, false, false, false, false, false, false] rfl rfl (any_of HT_.out (by kernel_rfl)) (fun _ _ _ h => h) (Or.inl ⟨by first | rfl | kernel_rfl, ?_⟩) ?_ ?_
      rotate_left
      · intro w'
        go_simp
        with_reducible rfl
      rotate_left
      · simp only [Act.put, List.setIfInBounds_toArray, List.set_cons_zero, List.set_cons_succ, i64_w, i32_w]
        rfl
      refine take_ (i := 7) (N := some 35) (v := ?_) (a' := ?_) #[true, true, true, true, true, true, true, true, false, false, false, false, false, false, false, false, false, false, false, false] rfl rfl (take_ofW HT_.out HW_.out (by kernel_rfl)) (fun _ _ _ h => h) (Or.inl ⟨by first | rfl | kernel_rfl, ?_⟩) hHeld ?_ ?_
      rotate_left
      · intro w' s0
        have z0 := (s0.cell (by exact lB9)).trans x0
        have z1 := (s0.cell (by exact lB9)).trans x1
        have z2 := (s0.cell (by exact lB9)).trans x2
        go_simp
        with_reducible rfl
      rotate_left
      · simp only [Act.put, List.setIfInBounds_toArray, List.set_cons_zero, List.set_cons_succ, i64_w, i32_w]
        rfl
      refine one_ (i := 8) (N := some 36) #[true, true, true, true, true, true, true, true, true, false, false, false, false, false, false, false, false, false, false, false] rfl rfl (one_of HT_.out (by kernel_rfl)) (by decide) (fun K hK => ?_)
      refine goes_ Try.func11 (by kernel_rfl) rfl #[.agg #[.int .i64 sh, .int .i64 ce, .slice V La.length cv]] (by first | rfl | kernel_rfl) rfl rfl (by first | rfl | kernel_rfl) ?_
      refine (tautochronelaw21_may.calls kl sh ce V cv La true _ (Kd.C_below hCV hHeld) hcv hkl).mono ?_
      rintro e w8 ⟨rfl, hb8⟩
      have hHeld := hHeld.trans (hb8.mono hHeld.size)
      refine ⟨_, rfl, hK.out _ _ hHeld (fun hHeld => ?_)⟩
      clear hK K
      refine norm_ (a' := ?_) ?_ ?_
      rotate_left
      · show Act.put _ (some 36) _ = _
        simp only [Act.put, List.setIfInBounds_toArray, List.set_cons_zero, List.set_cons_succ, i64_w, i32_w]
        rfl
      refine pure_ (i := 9) (N := some 37) (v := ?_) (a' := ?_) #[true, true, true, true, true, true, true, true, true, true, false, false, false, false, false, false, false, false, false, false] rfl rfl (any_of HT_.out (by kernel_rfl)) (fun _ _ _ h => h) (Or.inl ⟨by first | rfl | kernel_rfl, ?_⟩) ?_ ?_
      rotate_left
      · intro w'
        go_simp
        with_reducible rfl
      rotate_left
      · simp only [Act.put, List.setIfInBounds_toArray, List.set_cons_zero, List.set_cons_succ, i64_w, i32_w]
        rfl
      refine pure_ (i := 10) (N := some 38) (v := ?_) (a' := ?_) #[true, true, true, true, true, true, true, true, true, true, true, false, false, false, false, false, false, false, false, false] rfl rfl (any_of HT_.out (by kernel_rfl)) (fun _ _ _ h => h) (Or.inl ⟨by first | rfl | kernel_rfl, ?_⟩) ?_ ?_
      rotate_left
      · intro w'
        go_simp
        with_reducible rfl
      rotate_left
      · simp only [Act.put, List.setIfInBounds_toArray, List.set_cons_zero, List.set_cons_succ, i64_w, i32_w]
        rfl
      refine pure_ (i := 11) (N := some 39) (v := ?_) (a' := ?_) #[true, true, true, true, true, true, true, true, true, true, true, true, false, false, false, false, false, false, false, false] rfl rfl (any_of HT_.out (by kernel_rfl)) (fun _ _ _ h => h) (Or.inl ⟨by first | rfl | kernel_rfl, ?_⟩) ?_ ?_
      rotate_left
      · intro w'
        go_simp
        with_reducible rfl
      rotate_left
      · simp only [Act.put, List.setIfInBounds_toArray, List.set_cons_zero, List.set_cons_succ, i64_w, i32_w]
        rfl
      refine pure_ (i := 12) (N := some 40) (v := ?_) (a' := ?_) #[true, true, true, true, true, true, true, true, true, true, true, true, true, false, false, false, false, false, false, false] rfl rfl (any_of HT_.out (by kernel_rfl)) (fun _ _ _ h => h) (Or.inl ⟨by first | rfl | kernel_rfl, ?_⟩) ?_ ?_
      rotate_left
      · intro w'
        go_simp
        with_reducible rfl
      rotate_left
      · simp only [Act.put, List.setIfInBounds_toArray, List.set_cons_zero, List.set_cons_succ, i64_w, i32_w]
        rfl
      refine pure_ (i := 13) (N := some 41) (v := ?_) (a' := ?_) #[true, true, true, true, true, true, true, true, true, true, true, true, true, true, false, false, false, false, false, false] rfl rfl (any_of HT_.out (by kernel_rfl)) (fun _ _ _ h => h) (Or.inl ⟨by first | rfl | kernel_rfl, ?_⟩) ?_ ?_
      rotate_left
      · intro w'
        go_simp
        with_reducible rfl
      rotate_left
      · simp only [Act.put, List.setIfInBounds_toArray, List.set_cons_zero, List.set_cons_succ, i64_w, i32_w]
        rfl
      refine pure_ (i := 14) (N := some 42) (v := undef) (a' := ?_) #[true, true, true, true, true, true, true, true, true, true, true, true, true, true, true, false, false, false, false, false] rfl rfl (any_of HT_.out (by kernel_rfl)) (fun _ _ _ h => h) (Or.inr ⟨by first | rfl | kernel_rfl, rfl⟩) ?_ ?_
      rotate_left
      · simp only [Act.put, List.setIfInBounds_toArray, List.set_cons_zero, List.set_cons_succ, i64_w, i32_w]
        rfl
      refine pure_ (i := 15) (N := some 43) (v := undef) (a' := ?_) #[true, true, true, true, true, true, true, true, true, true, true, true, true, true, true, true, false, false, false, false] rfl rfl (any_of HT_.out (by kernel_rfl)) (fun _ _ _ h => h) (Or.inr ⟨by first | rfl | kernel_rfl, rfl⟩) ?_ ?_
      rotate_left
      · simp only [Act.put, List.setIfInBounds_toArray, List.set_cons_zero, List.set_cons_succ, i64_w, i32_w]
        rfl
      refine pure_ (i := 16) (N := some 44) (v := undef) (a' := ?_) #[true, true, true, true, true, true, true, true, true, true, true, true, true, true, true, true, true, false, false, false] rfl rfl (any_of HT_.out (by kernel_rfl)) (fun _ _ _ h => h) (Or.inr ⟨by first | rfl | kernel_rfl, rfl⟩) ?_ ?_
      rotate_left
      · simp only [Act.put, List.setIfInBounds_toArray, List.set_cons_zero, List.set_cons_succ, i64_w, i32_w]
        rfl
      refine pure_ (i := 17) (N := some 45) (v := ?_) (a' := ?_) #[true, true, true, true, true, true, true, true, true, true, true, true, true, true, true, true, true, true, false, false] rfl rfl (any_of HT_.out (by kernel_rfl)) (fun _ _ _ h => h) (Or.inl ⟨by first | rfl | kernel_rfl, ?_⟩) ?_ ?_
      rotate_left
      · intro w'
        go_simp
        with_reducible rfl
      rotate_left
      · simp only [Act.put, List.setIfInBounds_toArray, List.set_cons_zero, List.set_cons_succ, i64_w, i32_w]
        rfl
      refine pure_ (i := 18) (N := some 46) (v := ?_) (a' := ?_) #[true, true, true, true, true, true, true, true, true, true, true, true, true, true, true, true, true, true, true, false] rfl rfl (any_of HT_.out (by kernel_rfl)) (fun _ _ _ h => h) (Or.inl ⟨by first | rfl | kernel_rfl, ?_⟩) ?_ ?_
      rotate_left
      · intro w'
        go_simp
        with_reducible rfl
      rotate_left
      · simp only [Act.put, List.setIfInBounds_toArray, List.set_cons_zero, List.set_cons_succ, i64_w, i32_w]
        rfl
      refine pure_ (i := 19) (N := some 8) (v := ?_) (a' := ?_) #[true, true, true, true, true, true, true, true, true, true, true, true, true, true, true, true, true, true, true, true] rfl rfl (any_of HT_.out (by kernel_rfl)) (fun _ _ _ h => h) (Or.inl ⟨by first | rfl | kernel_rfl, ?_⟩) ?_ ?_
      rotate_left
      · intro w'
        go_simp
        with_reducible rfl
      rotate_left
      · simp only [Act.put, List.setIfInBounds_toArray, List.set_cons_zero, List.set_cons_succ, i64_w, i32_w]
        rfl
      refine done_ (done_of HT_.out (by kernel_rfl)) ?_
      clear HT_ HW_
      have HB8 := HB7.trans (hHeld.mono HB7.size)
      go_wp2
      go_ret
      exact ⟨rfl, HB8⟩
    | false =>
      obtain rfl := hBm rfl
      refine start_ (n := 20) (S := fun w' => Below w7.heap.size w7 w') (ds := []) #[false, false, false, false, false, false, false, false, false, false, false, false, false, false, false, false, false, false, false, false] (by kernel_rfl) rfl rfl (below_drew (Below.refl _ _)) (fun hHeld => ?_); refine with_tabW immay.tab7 immay.bits7 (fun HT_ HW_ => ?_)
      refine take_ (i := 0) (N := some 28) (v := ?_) (a' := ?_) #[true, false, false, false, false, false, false, false, false, false, false, false, false, false, false, false, false, false, false, false] rfl rfl (take_ofW HT_.out HW_.out (by kernel_rfl)) (fun _ _ _ h => h) (Or.inl ⟨by first | rfl | kernel_rfl, ?_⟩) hHeld ?_ ?_
      rotate_left
      · intro w' s0
        have z0 := (s0.cell (by exact lB9)).trans x0
        have z1 := (s0.cell (by exact lB9)).trans x1
        have z2 := (s0.cell (by exact lB9)).trans x2
        go_simp
        with_reducible rfl
      rotate_left
      · simp only [Act.put, List.setIfInBounds_toArray, List.set_cons_zero, List.set_cons_succ, i64_w, i32_w]
        rfl
      refine take_ (i := 2) (N := some 30) (v := ?_) (a' := ?_) #[true, false, true, false, false, false, false, false, false, false, false, false, false, false, false, false, false, false, false, false] rfl rfl (take_ofW HT_.out HW_.out (by kernel_rfl)) (fun _ _ _ h => h) (Or.inl ⟨by first | rfl | kernel_rfl, ?_⟩) hHeld ?_ ?_
      rotate_left
      · intro w' s0
        have z0 := (s0.cell (by exact lB9)).trans x0
        have z1 := (s0.cell (by exact lB9)).trans x1
        have z2 := (s0.cell (by exact lB9)).trans x2
        go_simp
        with_reducible rfl
      rotate_left
      · simp only [Act.put, List.setIfInBounds_toArray, List.set_cons_zero, List.set_cons_succ, i64_w, i32_w]
        rfl
      refine one_ (i := 1) (N := some 29) #[true, true, true, false, false, false, false, false, false, false, false, false, false, false, false, false, false, false, false, false] rfl rfl (one_of HT_.out (by kernel_rfl)) (by decide) (fun K hK => ?_)
      refine goes_ Try.func10 (by kernel_rfl) rfl #[.agg #[.int .i64 sh, .int .i64 ce, .slice V La.length cv]] (by first | rfl | kernel_rfl) rfl rfl (by first | rfl | kernel_rfl) ?_
      refine (image_May.calls km sh ce V cv La false _ (Kd.C_below hCV hHeld) hcv hkm).mono ?_
      rintro e w8 ⟨rfl, hb8⟩
      have hHeld := hHeld.trans (hb8.mono hHeld.size)
      refine ⟨_, rfl, hK.out _ _ hHeld (fun hHeld => ?_)⟩
      clear hK K
      refine norm_ (a' := ?_) ?_ ?_
      rotate_left
      · show Act.put _ (some 29) _ = _
        simp only [Act.put, List.setIfInBounds_toArray, List.set_cons_zero, List.set_cons_succ, i64_w, i32_w]
        rfl
      refine one_ (i := 3) (N := some 31) #[true, true, true, true, false, false, false, false, false, false, false, false, false, false, false, false, false, false, false, false] rfl rfl (one_of HT_.out (by kernel_rfl)) (by decide) (fun K hK => ?_)
      refine goes_ Try.func11 (by kernel_rfl) rfl #[.agg #[.int .i64 sh, .int .i64 ce, .slice V La.length cv]] (by first | rfl | kernel_rfl) rfl rfl (by first | rfl | kernel_rfl) ?_
      refine (tautochronelaw21_may.calls kl sh ce V cv La false _ (Kd.C_below hCV hHeld) hcv hkl).mono ?_
      rintro e w8 ⟨rfl, hb8⟩
      have hHeld := hHeld.trans (hb8.mono hHeld.size)
      refine ⟨_, rfl, hK.out _ _ hHeld (fun hHeld => ?_)⟩
      clear hK K
      refine norm_ (a' := ?_) ?_ ?_
      rotate_left
      · show Act.put _ (some 31) _ = _
        simp only [Act.put, List.setIfInBounds_toArray, List.set_cons_zero, List.set_cons_succ, i64_w, i32_w]
        rfl
      refine pure_ (i := 4) (N := some 32) (v := ?_) (a' := ?_) #[true, true, true, true, true, false, false, false, false, false, false, false, false, false, false, false, false, false, false, false] rfl rfl (any_of HT_.out (by kernel_rfl)) (fun _ _ _ h => h) (Or.inl ⟨by first | rfl | kernel_rfl, ?_⟩) ?_ ?_
      rotate_left
      · intro w'
        go_simp
        with_reducible rfl
      rotate_left
      · simp only [Act.put, List.setIfInBounds_toArray, List.set_cons_zero, List.set_cons_succ, i64_w, i32_w]
        rfl
      refine pure_ (i := 5) (N := some 33) (v := ?_) (a' := ?_) #[true, true, true, true, true, true, false, false, false, false, false, false, false, false, false, false, false, false, false, false] rfl rfl (any_of HT_.out (by kernel_rfl)) (fun _ _ _ h => h) (Or.inl ⟨by first | rfl | kernel_rfl, ?_⟩) ?_ ?_
      rotate_left
      · intro w'
        go_simp
        with_reducible rfl
      rotate_left
      · simp only [Act.put, List.setIfInBounds_toArray, List.set_cons_zero, List.set_cons_succ, i64_w, i32_w]
        rfl
      refine pure_ (i := 6) (N := some 34) (v := ?_) (a' := ?_) #[true, true, true, true, true, true, true, false, false, false, false, false, false, false, false, false, false, false, false, false] rfl rfl (any_of HT_.out (by kernel_rfl)) (fun _ _ _ h => h) (Or.inl ⟨by first | rfl | kernel_rfl, ?_⟩) ?_ ?_
      rotate_left
      · intro w'
        go_simp
        with_reducible rfl
      rotate_left
      · simp only [Act.put, List.setIfInBounds_toArray, List.set_cons_zero, List.set_cons_succ, i64_w, i32_w]
        rfl
      refine take_ (i := 7) (N := some 35) (v := ?_) (a' := ?_) #[true, true, true, true, true, true, true, true, false, false, false, false, false, false, false, false, false, false, false, false] rfl rfl (take_ofW HT_.out HW_.out (by kernel_rfl)) (fun _ _ _ h => h) (Or.inl ⟨by first | rfl | kernel_rfl, ?_⟩) hHeld ?_ ?_
      rotate_left
      · intro w' s0
        have z0 := (s0.cell (by exact lB9)).trans x0
        have z1 := (s0.cell (by exact lB9)).trans x1
        have z2 := (s0.cell (by exact lB9)).trans x2
        go_simp
        with_reducible rfl
      rotate_left
      · simp only [Act.put, List.setIfInBounds_toArray, List.set_cons_zero, List.set_cons_succ, i64_w, i32_w]
        rfl
      refine one_ (i := 8) (N := some 36) #[true, true, true, true, true, true, true, true, true, false, false, false, false, false, false, false, false, false, false, false] rfl rfl (one_of HT_.out (by kernel_rfl)) (by decide) (fun K hK => ?_)
      refine goes_ Try.func11 (by kernel_rfl) rfl #[.agg #[.int .i64 sh, .int .i64 ce, .slice V La.length cv]] (by first | rfl | kernel_rfl) rfl rfl (by first | rfl | kernel_rfl) ?_
      refine (tautochronelaw21_may.calls kl sh ce V cv La false _ (Kd.C_below hCV hHeld) hcv hkl).mono ?_
      rintro e w8 ⟨rfl, hb8⟩
      have hHeld := hHeld.trans (hb8.mono hHeld.size)
      refine ⟨_, rfl, hK.out _ _ hHeld (fun hHeld => ?_)⟩
      clear hK K
      refine norm_ (a' := ?_) ?_ ?_
      rotate_left
      · show Act.put _ (some 36) _ = _
        simp only [Act.put, List.setIfInBounds_toArray, List.set_cons_zero, List.set_cons_succ, i64_w, i32_w]
        rfl
      refine pure_ (i := 9) (N := some 37) (v := ?_) (a' := ?_) #[true, true, true, true, true, true, true, true, true, true, false, false, false, false, false, false, false, false, false, false] rfl rfl (any_of HT_.out (by kernel_rfl)) (fun _ _ _ h => h) (Or.inl ⟨by first | rfl | kernel_rfl, ?_⟩) ?_ ?_
      rotate_left
      · intro w'
        go_simp
        with_reducible rfl
      rotate_left
      · simp only [Act.put, List.setIfInBounds_toArray, List.set_cons_zero, List.set_cons_succ, i64_w, i32_w]
        rfl
      refine pure_ (i := 10) (N := some 38) (v := ?_) (a' := ?_) #[true, true, true, true, true, true, true, true, true, true, true, false, false, false, false, false, false, false, false, false] rfl rfl (any_of HT_.out (by kernel_rfl)) (fun _ _ _ h => h) (Or.inl ⟨by first | rfl | kernel_rfl, ?_⟩) ?_ ?_
      rotate_left
      · intro w'
        go_simp
        with_reducible rfl
      rotate_left
      · simp only [Act.put, List.setIfInBounds_toArray, List.set_cons_zero, List.set_cons_succ, i64_w, i32_w]
        rfl
      refine pure_ (i := 11) (N := some 39) (v := ?_) (a' := ?_) #[true, true, true, true, true, true, true, true, true, true, true, true, false, false, false, false, false, false, false, false] rfl rfl (any_of HT_.out (by kernel_rfl)) (fun _ _ _ h => h) (Or.inl ⟨by first | rfl | kernel_rfl, ?_⟩) ?_ ?_
      rotate_left
      · intro w'
        go_simp
        with_reducible rfl
      rotate_left
      · simp only [Act.put, List.setIfInBounds_toArray, List.set_cons_zero, List.set_cons_succ, i64_w, i32_w]
        rfl
      refine pure_ (i := 12) (N := some 40) (v := ?_) (a' := ?_) #[true, true, true, true, true, true, true, true, true, true, true, true, true, false, false, false, false, false, false, false] rfl rfl (any_of HT_.out (by kernel_rfl)) (fun _ _ _ h => h) (Or.inl ⟨by first | rfl | kernel_rfl, ?_⟩) ?_ ?_
      rotate_left
      · intro w'
        go_simp
        with_reducible rfl
      rotate_left
      · simp only [Act.put, List.setIfInBounds_toArray, List.set_cons_zero, List.set_cons_succ, i64_w, i32_w]
        rfl
      refine pure_ (i := 13) (N := some 41) (v := ?_) (a' := ?_) #[true, true, true, true, true, true, true, true, true, true, true, true, true, true, false, false, false, false, false, false] rfl rfl (any_of HT_.out (by kernel_rfl)) (fun _ _ _ h => h) (Or.inl ⟨by first | rfl | kernel_rfl, ?_⟩) ?_ ?_
      rotate_left
      · intro w'
        go_simp
        with_reducible rfl
      rotate_left
      · simp only [Act.put, List.setIfInBounds_toArray, List.set_cons_zero, List.set_cons_succ, i64_w, i32_w]
        rfl
      refine pure_ (i := 14) (N := some 42) (v := ?_) (a' := ?_) #[true, true, true, true, true, true, true, true, true, true, true, true, true, true, true, false, false, false, false, false] rfl rfl (any_of HT_.out (by kernel_rfl)) (fun _ _ _ h => h) (Or.inl ⟨by first | rfl | kernel_rfl, ?_⟩) ?_ ?_
      rotate_left
      · intro w'
        go_simp
        with_reducible rfl
      rotate_left
      · simp only [Act.put, List.setIfInBounds_toArray, List.set_cons_zero, List.set_cons_succ, i64_w, i32_w]
        rfl
      refine pure_ (i := 15) (N := some 43) (v := ?_) (a' := ?_) #[true, true, true, true, true, true, true, true, true, true, true, true, true, true, true, true, false, false, false, false] rfl rfl (any_of HT_.out (by kernel_rfl)) (fun _ _ _ h => h) (Or.inl ⟨by first | rfl | kernel_rfl, ?_⟩) ?_ ?_
      rotate_left
      · intro w'
        go_simp
        with_reducible rfl
      rotate_left
      · simp only [Act.put, List.setIfInBounds_toArray, List.set_cons_zero, List.set_cons_succ, i64_w, i32_w]
        rfl
      refine pure_ (i := 16) (N := some 44) (v := ?_) (a' := ?_) #[true, true, true, true, true, true, true, true, true, true, true, true, true, true, true, true, true, false, false, false] rfl rfl (any_of HT_.out (by kernel_rfl)) (fun _ _ _ h => h) (Or.inl ⟨by first | rfl | kernel_rfl, ?_⟩) ?_ ?_
      rotate_left
      · intro w'
        go_simp
        with_reducible rfl
      rotate_left
      · simp only [Act.put, List.setIfInBounds_toArray, List.set_cons_zero, List.set_cons_succ, i64_w, i32_w]
        rfl
      refine pure_ (i := 17) (N := some 45) (v := ?_) (a' := ?_) #[true, true, true, true, true, true, true, true, true, true, true, true, true, true, true, true, true, true, false, false] rfl rfl (any_of HT_.out (by kernel_rfl)) (fun _ _ _ h => h) (Or.inl ⟨by first | rfl | kernel_rfl, ?_⟩) ?_ ?_
      rotate_left
      · intro w'
        go_simp
        with_reducible rfl
      rotate_left
      · simp only [Act.put, List.setIfInBounds_toArray, List.set_cons_zero, List.set_cons_succ, i64_w, i32_w]
        rfl
      refine pure_ (i := 18) (N := some 46) (v := ?_) (a' := ?_) #[true, true, true, true, true, true, true, true, true, true, true, true, true, true, true, true, true, true, true, false] rfl rfl (any_of HT_.out (by kernel_rfl)) (fun _ _ _ h => h) (Or.inl ⟨by first | rfl | kernel_rfl, ?_⟩) ?_ ?_
      rotate_left
      · intro w'
        go_simp
        with_reducible rfl
      rotate_left
      · simp only [Act.put, List.setIfInBounds_toArray, List.set_cons_zero, List.set_cons_succ, i64_w, i32_w]
        rfl
      refine pure_ (i := 19) (N := some 8) (v := ?_) (a' := ?_) #[true, true, true, true, true, true, true, true, true, true, true, true, true, true, true, true, true, true, true, true] rfl rfl (any_of HT_.out (by kernel_rfl)) (fun _ _ _ h => h) (Or.inl ⟨by first | rfl | kernel_rfl, ?_⟩) ?_ ?_
      rotate_left
      · intro w'
        go_simp
        with_reducible rfl
      rotate_left
      · simp only [Act.put, List.setIfInBounds_toArray, List.set_cons_zero, List.set_cons_succ, i64_w, i32_w]
        rfl
      refine done_ (done_of HT_.out (by kernel_rfl)) ?_
      clear HT_ HW_
      have HB8 := HB7.trans (hHeld.mono HB7.size)
      go_wp2
      go_ret
      exact ⟨rfl, HB8⟩
  | true =>
    have hk0 := fun wx (hC : Kd.C (Kd.slice 46 k46) wx A0 R0.length R0) => mkI.calls A0 c0 R0 0 100 wx hC hc0 hl0 (by omega) (by omega) hu0
    obtain ⟨hm0, hx0⟩ := mkI_ok R0 0 100 (by omega) (by omega) hu0
    generalize (R0.take 16).map (thM (100 + 1)) = La at hk0 hm0 hx0
    have hlen : ∀ t ∈ La, t.length ≤ 9223372036854775807 := fun t ht => by have := (hm0.2.2.2.2 t ht).1.2.1; omega
    replace hk0 := Aside0.mk hk0
    replace hm0 := Aside0.mk hm0
    replace hx0 := Aside0.mk hx0
    replace hu0 := Aside0.mk hu0
    replace ht0 := Aside0.mk ht0
    go_enter Try.func3, Try.ntmps3
    go_upto_region 5 with (first
      | (go_at_call 7; refine (tautochronelaw21_awake.calls ka true _ hka).mono ?_; rintro e w1 ⟨rfl, hb1⟩)
      | go_in)
    have e9 := heap_alloc_new w1 (Obj.cells #[.int .i64 sh, .int .i64 ce, .slice A0 R0.length c0] 25 (0, 0))
    have hb5 : Below w1.heap.size w1 (w1.alloc (Obj.cells #[.int .i64 sh, .int .i64 ce, .slice A0 R0.length c0] 25 (0, 0))) := (Below.refl _ _).alloc (Nat.le_refl _) _
    have HB5 := hb1.trans (hb5.mono hb1.size)
    have hCR := Kd.C_below hr0 HB5
    have hB9w : w.heap.size ≤ w1.heap.size := hb1.size
    generalize w1.alloc (Obj.cells #[.int .i64 sh, .int .i64 ce, .slice A0 R0.length c0] 25 (0, 0)) = w4 at e9 hb5 HB5 hCR ⊢
    obtain ⟨B9, hB9⟩ : ∃ B, B = w1.heap.size := ⟨_, rfl⟩
    rw [← hB9] at e9 hB9w ⊢
    replace hB9 := Aside0.mk hB9
    clear hb1 hb5
    have hfl := field25
    have TM := hk0.out w4 hCR
    go_upto_region 6 with (first
      | (go_at_call 8; refine TM.mono ?_; rintro e w5 ⟨v0, rfl, hS0, hb5⟩; have HB6 := HB5.trans (hb5.mono HB5.size); obtain ⟨V, cv, rfl, hcv, hCV⟩ := Kd.S_reads hS0; have e9 := (hb5.block B9 (Array.getElem?_eq_some_iff.mp e9).1).trans e9; have f9 := blk_frozen e9 2; have c9 : w5.cell? ⟨B9, 2, none⟩ = some (.slice A0 R0.length c0) := by simp [World.cell?, e9])
      | go_in)
    clear TM hfl
    have hS9 := Kd.S_far (p := ⟨B9, 2, none⟩) (Kd.S_types hS0 e9 (by decide)) (fun _ hk => hk.2) (.slice V La.length cv)
    have e9 := blk_put (cs' := #[.int .i64 sh, .int .i64 ce, .slice V La.length cv]) e9 2 (.slice V La.length cv) rfl
    have HB5 : Below w.heap.size w (w5.setCell ⟨B9, 2, none⟩ (.slice V La.length cv)) := HB6.setCell hB9w _
    generalize w5.setCell ⟨B9, 2, none⟩ (.slice V La.length cv) = w5 at hS9 e9 HB5 ⊢
    obtain ⟨V', cv', hv', hcv', hCV'⟩ := Kd.S_reads hS9
    cases hv'
    clear hS0 hCV HB6 hcv hS9
    have hcv := hcv'
    have hCV := hCV'
    clear hcv' hCV'
    have x0 : w5.cell? ⟨B9, 0, none⟩ = some (.int .i64 sh) := by simp [World.cell?, e9]
    have x1 : w5.cell? ⟨B9, 1, none⟩ = some (.int .i64 ce) := by simp [World.cell?, e9]
    have x2 : w5.cell? ⟨B9, 2, none⟩ = some (.slice V La.length cv) := by simp [World.cell?, e9]
    obtain ⟨km, hkm⟩ : ∃ k, image_May.f k sh ce La = some (decide (imS sh ce La)) := Ev.rounds (imay_ev sh ce La hlen)
    obtain ⟨kl, hkl⟩ : ∃ k, tautochronelaw21_may.f k sh ce La = some (decide (imS sh ce La)) := Ev.rounds (lmay_ev sh ce La hlen)
    obtain ⟨ke, Bm, hke, hBm⟩ : ∃ k B, image_Encode.f k sh ce La = some (B, decide (imS sh ce La)) ∧ (decide (imS sh ce La) = false → B = []) := by
      have := ienc_ev sh ce La hlen
      by_cases h : imS sh ce La
      · rw [if_pos h] at this; obtain ⟨k, hk⟩ := Ev.rounds this; exact ⟨k, _, by rw [decide_eq_true h]; exact hk, fun h2 => by rw [decide_eq_true h] at h2; cases h2⟩
      · rw [if_neg h] at this; obtain ⟨k, hk⟩ := Ev.rounds this; exact ⟨k, _, by rw [decide_eq_false h]; exact hk, fun _ => rfl⟩
    generalize decide (imS sh ce La) = bM at hkm hkl hke hBm
    replace hlen := Aside0.mk hlen
    have TE := image_Encode.calls ke sh ce V cv La Bm bM w5 hCV hcv hke
    go_upto_region 7 with (first
      | (go_at_call 9; refine TE.mono ?_; rintro e w7 ⟨vb, rfl, hRb, hb7⟩)
      | go_in)
    clear TE x0 x1 x2
    have e9 := (hb7.block B9 (Array.getElem?_eq_some_iff.mp e9).1).trans e9
    have HB7 := HB5.trans (hb7.mono HB5.size)
    have hCV := Kd.C_below hCV hb7
    clear HB5 hb7
    obtain ⟨Ub, cub, rfl, hcub, hCUb⟩ := Kd.R_reads hRb
    clear hRb
    have lB9 : B9 < w7.heap.size := (Array.getElem?_eq_some_iff.mp e9).1
    have x0 : w7.cell? ⟨B9, 0, none⟩ = some (.int .i64 sh) := by simp [World.cell?, e9]
    have x1 : w7.cell? ⟨B9, 1, none⟩ = some (.int .i64 ce) := by simp [World.cell?, e9]
    have x2 : w7.cell? ⟨B9, 2, none⟩ = some (.slice V La.length cv) := by simp [World.cell?, e9]
    cases bM with
    | true =>
      clear hBm
      refine start_ (n := 20) (S := fun w' => Below w7.heap.size w7 w') (ds := []) #[false, false, false, false, false, false, false, false, false, false, false, false, false, false, false, false, false, false, false, false] (by kernel_rfl) rfl rfl (below_drew (Below.refl _ _)) (fun hHeld => ?_); refine with_tabW immay.tab7 immay.bits7 (fun HT_ HW_ => ?_)
      refine take_ (i := 0) (N := some 28) (v := ?_) (a' := ?_) #[true, false, false, false, false, false, false, false, false, false, false, false, false, false, false, false, false, false, false, false] rfl rfl (take_ofW HT_.out HW_.out (by kernel_rfl)) (fun _ _ _ h => h) (Or.inl ⟨by first | rfl | kernel_rfl, ?_⟩) hHeld ?_ ?_
      rotate_left
      · intro w' s0
        have z0 := (s0.cell (by exact lB9)).trans x0
        have z1 := (s0.cell (by exact lB9)).trans x1
        have z2 := (s0.cell (by exact lB9)).trans x2
        go_simp
        with_reducible rfl
      rotate_left
      · simp only [Act.put, List.setIfInBounds_toArray, List.set_cons_zero, List.set_cons_succ, i64_w, i32_w]
        rfl
      refine take_ (i := 2) (N := some 30) (v := ?_) (a' := ?_) #[true, false, true, false, false, false, false, false, false, false, false, false, false, false, false, false, false, false, false, false] rfl rfl (take_ofW HT_.out HW_.out (by kernel_rfl)) (fun _ _ _ h => h) (Or.inl ⟨by first | rfl | kernel_rfl, ?_⟩) hHeld ?_ ?_
      rotate_left
      · intro w' s0
        have z0 := (s0.cell (by exact lB9)).trans x0
        have z1 := (s0.cell (by exact lB9)).trans x1
        have z2 := (s0.cell (by exact lB9)).trans x2
        go_simp
        with_reducible rfl
      rotate_left
      · simp only [Act.put, List.setIfInBounds_toArray, List.set_cons_zero, List.set_cons_succ, i64_w, i32_w]
        rfl
      refine one_ (i := 1) (N := some 29) #[true, true, true, false, false, false, false, false, false, false, false, false, false, false, false, false, false, false, false, false] rfl rfl (one_of HT_.out (by kernel_rfl)) (by decide) (fun K hK => ?_)
      refine goes_ Try.func10 (by kernel_rfl) rfl #[.agg #[.int .i64 sh, .int .i64 ce, .slice V La.length cv]] (by first | rfl | kernel_rfl) rfl rfl (by first | rfl | kernel_rfl) ?_
      refine (image_May.calls km sh ce V cv La true _ (Kd.C_below hCV hHeld) hcv hkm).mono ?_
      rintro e w8 ⟨rfl, hb8⟩
      have hHeld := hHeld.trans (hb8.mono hHeld.size)
      refine ⟨_, rfl, hK.out _ _ hHeld (fun hHeld => ?_)⟩
      clear hK K
      refine norm_ (a' := ?_) ?_ ?_
      rotate_left
      · show Act.put _ (some 29) _ = _
        simp only [Act.put, List.setIfInBounds_toArray, List.set_cons_zero, List.set_cons_succ, i64_w, i32_w]
        rfl
      refine one_ (i := 3) (N := some 31) #[true, true, true, true, false, false, false, false, false, false, false, false, false, false, false, false, false, false, false, false] rfl rfl (one_of HT_.out (by kernel_rfl)) (by decide) (fun K hK => ?_)
      refine goes_ Try.func11 (by kernel_rfl) rfl #[.agg #[.int .i64 sh, .int .i64 ce, .slice V La.length cv]] (by first | rfl | kernel_rfl) rfl rfl (by first | rfl | kernel_rfl) ?_
      refine (tautochronelaw21_may.calls kl sh ce V cv La true _ (Kd.C_below hCV hHeld) hcv hkl).mono ?_
      rintro e w8 ⟨rfl, hb8⟩
      have hHeld := hHeld.trans (hb8.mono hHeld.size)
      refine ⟨_, rfl, hK.out _ _ hHeld (fun hHeld => ?_)⟩
      clear hK K
      refine norm_ (a' := ?_) ?_ ?_
      rotate_left
      · show Act.put _ (some 31) _ = _
        simp only [Act.put, List.setIfInBounds_toArray, List.set_cons_zero, List.set_cons_succ, i64_w, i32_w]
        rfl
      refine pure_ (i := 4) (N := some 32) (v := ?_) (a' := ?_) #[true, true, true, true, true, false, false, false, false, false, false, false, false, false, false, false, false, false, false, false] rfl rfl (any_of HT_.out (by kernel_rfl)) (fun _ _ _ h => h) (Or.inl ⟨by first | rfl | kernel_rfl, ?_⟩) ?_ ?_
      rotate_left
      · intro w'
        go_simp
        with_reducible rfl
      rotate_left
      · simp only [Act.put, List.setIfInBounds_toArray, List.set_cons_zero, List.set_cons_succ, i64_w, i32_w]
        rfl
      refine pure_ (i := 5) (N := some 33) (v := ?_) (a' := ?_) #[true, true, true, true, true, true, false, false, false, false, false, false, false, false, false, false, false, false, false, false] rfl rfl (any_of HT_.out (by kernel_rfl)) (fun _ _ _ h => h) (Or.inl ⟨by first | rfl | kernel_rfl, ?_⟩) ?_ ?_
      rotate_left
      · intro w'
        go_simp
        with_reducible rfl
      rotate_left
      · simp only [Act.put, List.setIfInBounds_toArray, List.set_cons_zero, List.set_cons_succ, i64_w, i32_w]
        rfl
      refine pure_ (i := 6) (N := some 34) (v := ?_) (a' := ?_) #[true, true, true, true, true, true, true, false, false, false, false, false, false, false, false, false, false, false, false, false] rfl rfl (any_of HT_.out (by kernel_rfl)) (fun _ _ _ h => h) (Or.inl ⟨by first | rfl | kernel_rfl, ?_⟩) ?_ ?_
      rotate_left
      · intro w'
        go_simp
        with_reducible rfl
      rotate_left
      · simp only [Act.put, List.setIfInBounds_toArray, List.set_cons_zero, List.set_cons_succ, i64_w, i32_w]
        rfl
      refine take_ (i := 7) (N := some 35) (v := ?_) (a' := ?_) #[true, true, true, true, true, true, true, true, false, false, false, false, false, false, false, false, false, false, false, false] rfl rfl (take_ofW HT_.out HW_.out (by kernel_rfl)) (fun _ _ _ h => h) (Or.inl ⟨by first | rfl | kernel_rfl, ?_⟩) hHeld ?_ ?_
      rotate_left
      · intro w' s0
        have z0 := (s0.cell (by exact lB9)).trans x0
        have z1 := (s0.cell (by exact lB9)).trans x1
        have z2 := (s0.cell (by exact lB9)).trans x2
        go_simp
        with_reducible rfl
      rotate_left
      · simp only [Act.put, List.setIfInBounds_toArray, List.set_cons_zero, List.set_cons_succ, i64_w, i32_w]
        rfl
      refine one_ (i := 8) (N := some 36) #[true, true, true, true, true, true, true, true, true, false, false, false, false, false, false, false, false, false, false, false] rfl rfl (one_of HT_.out (by kernel_rfl)) (by decide) (fun K hK => ?_)
      refine goes_ Try.func11 (by kernel_rfl) rfl #[.agg #[.int .i64 sh, .int .i64 ce, .slice V La.length cv]] (by first | rfl | kernel_rfl) rfl rfl (by first | rfl | kernel_rfl) ?_
      refine (tautochronelaw21_may.calls kl sh ce V cv La true _ (Kd.C_below hCV hHeld) hcv hkl).mono ?_
      rintro e w8 ⟨rfl, hb8⟩
      have hHeld := hHeld.trans (hb8.mono hHeld.size)
      refine ⟨_, rfl, hK.out _ _ hHeld (fun hHeld => ?_)⟩
      clear hK K
      refine norm_ (a' := ?_) ?_ ?_
      rotate_left
      · show Act.put _ (some 36) _ = _
        simp only [Act.put, List.setIfInBounds_toArray, List.set_cons_zero, List.set_cons_succ, i64_w, i32_w]
        rfl
      refine pure_ (i := 9) (N := some 37) (v := ?_) (a' := ?_) #[true, true, true, true, true, true, true, true, true, true, false, false, false, false, false, false, false, false, false, false] rfl rfl (any_of HT_.out (by kernel_rfl)) (fun _ _ _ h => h) (Or.inl ⟨by first | rfl | kernel_rfl, ?_⟩) ?_ ?_
      rotate_left
      · intro w'
        go_simp
        with_reducible rfl
      rotate_left
      · simp only [Act.put, List.setIfInBounds_toArray, List.set_cons_zero, List.set_cons_succ, i64_w, i32_w]
        rfl
      refine pure_ (i := 10) (N := some 38) (v := ?_) (a' := ?_) #[true, true, true, true, true, true, true, true, true, true, true, false, false, false, false, false, false, false, false, false] rfl rfl (any_of HT_.out (by kernel_rfl)) (fun _ _ _ h => h) (Or.inl ⟨by first | rfl | kernel_rfl, ?_⟩) ?_ ?_
      rotate_left
      · intro w'
        go_simp
        with_reducible rfl
      rotate_left
      · simp only [Act.put, List.setIfInBounds_toArray, List.set_cons_zero, List.set_cons_succ, i64_w, i32_w]
        rfl
      refine pure_ (i := 11) (N := some 39) (v := ?_) (a' := ?_) #[true, true, true, true, true, true, true, true, true, true, true, true, false, false, false, false, false, false, false, false] rfl rfl (any_of HT_.out (by kernel_rfl)) (fun _ _ _ h => h) (Or.inl ⟨by first | rfl | kernel_rfl, ?_⟩) ?_ ?_
      rotate_left
      · intro w'
        go_simp
        with_reducible rfl
      rotate_left
      · simp only [Act.put, List.setIfInBounds_toArray, List.set_cons_zero, List.set_cons_succ, i64_w, i32_w]
        rfl
      refine pure_ (i := 12) (N := some 40) (v := ?_) (a' := ?_) #[true, true, true, true, true, true, true, true, true, true, true, true, true, false, false, false, false, false, false, false] rfl rfl (any_of HT_.out (by kernel_rfl)) (fun _ _ _ h => h) (Or.inl ⟨by first | rfl | kernel_rfl, ?_⟩) ?_ ?_
      rotate_left
      · intro w'
        go_simp
        with_reducible rfl
      rotate_left
      · simp only [Act.put, List.setIfInBounds_toArray, List.set_cons_zero, List.set_cons_succ, i64_w, i32_w]
        rfl
      refine pure_ (i := 13) (N := some 41) (v := ?_) (a' := ?_) #[true, true, true, true, true, true, true, true, true, true, true, true, true, true, false, false, false, false, false, false] rfl rfl (any_of HT_.out (by kernel_rfl)) (fun _ _ _ h => h) (Or.inl ⟨by first | rfl | kernel_rfl, ?_⟩) ?_ ?_
      rotate_left
      · intro w'
        go_simp
        with_reducible rfl
      rotate_left
      · simp only [Act.put, List.setIfInBounds_toArray, List.set_cons_zero, List.set_cons_succ, i64_w, i32_w]
        rfl
      refine pure_ (i := 14) (N := some 42) (v := undef) (a' := ?_) #[true, true, true, true, true, true, true, true, true, true, true, true, true, true, true, false, false, false, false, false] rfl rfl (any_of HT_.out (by kernel_rfl)) (fun _ _ _ h => h) (Or.inr ⟨by first | rfl | kernel_rfl, rfl⟩) ?_ ?_
      rotate_left
      · simp only [Act.put, List.setIfInBounds_toArray, List.set_cons_zero, List.set_cons_succ, i64_w, i32_w]
        rfl
      refine pure_ (i := 15) (N := some 43) (v := undef) (a' := ?_) #[true, true, true, true, true, true, true, true, true, true, true, true, true, true, true, true, false, false, false, false] rfl rfl (any_of HT_.out (by kernel_rfl)) (fun _ _ _ h => h) (Or.inr ⟨by first | rfl | kernel_rfl, rfl⟩) ?_ ?_
      rotate_left
      · simp only [Act.put, List.setIfInBounds_toArray, List.set_cons_zero, List.set_cons_succ, i64_w, i32_w]
        rfl
      refine pure_ (i := 16) (N := some 44) (v := undef) (a' := ?_) #[true, true, true, true, true, true, true, true, true, true, true, true, true, true, true, true, true, false, false, false] rfl rfl (any_of HT_.out (by kernel_rfl)) (fun _ _ _ h => h) (Or.inr ⟨by first | rfl | kernel_rfl, rfl⟩) ?_ ?_
      rotate_left
      · simp only [Act.put, List.setIfInBounds_toArray, List.set_cons_zero, List.set_cons_succ, i64_w, i32_w]
        rfl
      refine pure_ (i := 17) (N := some 45) (v := ?_) (a' := ?_) #[true, true, true, true, true, true, true, true, true, true, true, true, true, true, true, true, true, true, false, false] rfl rfl (any_of HT_.out (by kernel_rfl)) (fun _ _ _ h => h) (Or.inl ⟨by first | rfl | kernel_rfl, ?_⟩) ?_ ?_
      rotate_left
      · intro w'
        go_simp
        with_reducible rfl
      rotate_left
      · simp only [Act.put, List.setIfInBounds_toArray, List.set_cons_zero, List.set_cons_succ, i64_w, i32_w]
        rfl
      refine pure_ (i := 18) (N := some 46) (v := ?_) (a' := ?_) #[true, true, true, true, true, true, true, true, true, true, true, true, true, true, true, true, true, true, true, false] rfl rfl (any_of HT_.out (by kernel_rfl)) (fun _ _ _ h => h) (Or.inl ⟨by first | rfl | kernel_rfl, ?_⟩) ?_ ?_
      rotate_left
      · intro w'
        go_simp
        with_reducible rfl
      rotate_left
      · simp only [Act.put, List.setIfInBounds_toArray, List.set_cons_zero, List.set_cons_succ, i64_w, i32_w]
        rfl
      refine pure_ (i := 19) (N := some 8) (v := ?_) (a' := ?_) #[true, true, true, true, true, true, true, true, true, true, true, true, true, true, true, true, true, true, true, true] rfl rfl (any_of HT_.out (by kernel_rfl)) (fun _ _ _ h => h) (Or.inl ⟨by first | rfl | kernel_rfl, ?_⟩) ?_ ?_
      rotate_left
      · intro w'
        go_simp
        with_reducible rfl
      rotate_left
      · simp only [Act.put, List.setIfInBounds_toArray, List.set_cons_zero, List.set_cons_succ, i64_w, i32_w]
        rfl
      refine done_ (done_of HT_.out (by kernel_rfl)) ?_
      clear HT_ HW_
      have HB8 := HB7.trans (hHeld.mono HB7.size)
      go_wp2
      go_ret
      exact ⟨rfl, HB8⟩
    | false =>
      obtain rfl := hBm rfl
      refine start_ (n := 20) (S := fun w' => Below w7.heap.size w7 w') (ds := []) #[false, false, false, false, false, false, false, false, false, false, false, false, false, false, false, false, false, false, false, false] (by kernel_rfl) rfl rfl (below_drew (Below.refl _ _)) (fun hHeld => ?_); refine with_tabW immay.tab7 immay.bits7 (fun HT_ HW_ => ?_)
      refine take_ (i := 0) (N := some 28) (v := ?_) (a' := ?_) #[true, false, false, false, false, false, false, false, false, false, false, false, false, false, false, false, false, false, false, false] rfl rfl (take_ofW HT_.out HW_.out (by kernel_rfl)) (fun _ _ _ h => h) (Or.inl ⟨by first | rfl | kernel_rfl, ?_⟩) hHeld ?_ ?_
      rotate_left
      · intro w' s0
        have z0 := (s0.cell (by exact lB9)).trans x0
        have z1 := (s0.cell (by exact lB9)).trans x1
        have z2 := (s0.cell (by exact lB9)).trans x2
        go_simp
        with_reducible rfl
      rotate_left
      · simp only [Act.put, List.setIfInBounds_toArray, List.set_cons_zero, List.set_cons_succ, i64_w, i32_w]
        rfl
      refine take_ (i := 2) (N := some 30) (v := ?_) (a' := ?_) #[true, false, true, false, false, false, false, false, false, false, false, false, false, false, false, false, false, false, false, false] rfl rfl (take_ofW HT_.out HW_.out (by kernel_rfl)) (fun _ _ _ h => h) (Or.inl ⟨by first | rfl | kernel_rfl, ?_⟩) hHeld ?_ ?_
      rotate_left
      · intro w' s0
        have z0 := (s0.cell (by exact lB9)).trans x0
        have z1 := (s0.cell (by exact lB9)).trans x1
        have z2 := (s0.cell (by exact lB9)).trans x2
        go_simp
        with_reducible rfl
      rotate_left
      · simp only [Act.put, List.setIfInBounds_toArray, List.set_cons_zero, List.set_cons_succ, i64_w, i32_w]
        rfl
      refine one_ (i := 1) (N := some 29) #[true, true, true, false, false, false, false, false, false, false, false, false, false, false, false, false, false, false, false, false] rfl rfl (one_of HT_.out (by kernel_rfl)) (by decide) (fun K hK => ?_)
      refine goes_ Try.func10 (by kernel_rfl) rfl #[.agg #[.int .i64 sh, .int .i64 ce, .slice V La.length cv]] (by first | rfl | kernel_rfl) rfl rfl (by first | rfl | kernel_rfl) ?_
      refine (image_May.calls km sh ce V cv La false _ (Kd.C_below hCV hHeld) hcv hkm).mono ?_
      rintro e w8 ⟨rfl, hb8⟩
      have hHeld := hHeld.trans (hb8.mono hHeld.size)
      refine ⟨_, rfl, hK.out _ _ hHeld (fun hHeld => ?_)⟩
      clear hK K
      refine norm_ (a' := ?_) ?_ ?_
      rotate_left
      · show Act.put _ (some 29) _ = _
        simp only [Act.put, List.setIfInBounds_toArray, List.set_cons_zero, List.set_cons_succ, i64_w, i32_w]
        rfl
      refine one_ (i := 3) (N := some 31) #[true, true, true, true, false, false, false, false, false, false, false, false, false, false, false, false, false, false, false, false] rfl rfl (one_of HT_.out (by kernel_rfl)) (by decide) (fun K hK => ?_)
      refine goes_ Try.func11 (by kernel_rfl) rfl #[.agg #[.int .i64 sh, .int .i64 ce, .slice V La.length cv]] (by first | rfl | kernel_rfl) rfl rfl (by first | rfl | kernel_rfl) ?_
      refine (tautochronelaw21_may.calls kl sh ce V cv La false _ (Kd.C_below hCV hHeld) hcv hkl).mono ?_
      rintro e w8 ⟨rfl, hb8⟩
      have hHeld := hHeld.trans (hb8.mono hHeld.size)
      refine ⟨_, rfl, hK.out _ _ hHeld (fun hHeld => ?_)⟩
      clear hK K
      refine norm_ (a' := ?_) ?_ ?_
      rotate_left
      · show Act.put _ (some 31) _ = _
        simp only [Act.put, List.setIfInBounds_toArray, List.set_cons_zero, List.set_cons_succ, i64_w, i32_w]
        rfl
      refine pure_ (i := 4) (N := some 32) (v := ?_) (a' := ?_) #[true, true, true, true, true, false, false, false, false, false, false, false, false, false, false, false, false, false, false, false] rfl rfl (any_of HT_.out (by kernel_rfl)) (fun _ _ _ h => h) (Or.inl ⟨by first | rfl | kernel_rfl, ?_⟩) ?_ ?_
      rotate_left
      · intro w'
        go_simp
        with_reducible rfl
      rotate_left
      · simp only [Act.put, List.setIfInBounds_toArray, List.set_cons_zero, List.set_cons_succ, i64_w, i32_w]
        rfl
      refine pure_ (i := 5) (N := some 33) (v := ?_) (a' := ?_) #[true, true, true, true, true, true, false, false, false, false, false, false, false, false, false, false, false, false, false, false] rfl rfl (any_of HT_.out (by kernel_rfl)) (fun _ _ _ h => h) (Or.inl ⟨by first | rfl | kernel_rfl, ?_⟩) ?_ ?_
      rotate_left
      · intro w'
        go_simp
        with_reducible rfl
      rotate_left
      · simp only [Act.put, List.setIfInBounds_toArray, List.set_cons_zero, List.set_cons_succ, i64_w, i32_w]
        rfl
      refine pure_ (i := 6) (N := some 34) (v := ?_) (a' := ?_) #[true, true, true, true, true, true, true, false, false, false, false, false, false, false, false, false, false, false, false, false] rfl rfl (any_of HT_.out (by kernel_rfl)) (fun _ _ _ h => h) (Or.inl ⟨by first | rfl | kernel_rfl, ?_⟩) ?_ ?_
      rotate_left
      · intro w'
        go_simp
        with_reducible rfl
      rotate_left
      · simp only [Act.put, List.setIfInBounds_toArray, List.set_cons_zero, List.set_cons_succ, i64_w, i32_w]
        rfl
      refine take_ (i := 7) (N := some 35) (v := ?_) (a' := ?_) #[true, true, true, true, true, true, true, true, false, false, false, false, false, false, false, false, false, false, false, false] rfl rfl (take_ofW HT_.out HW_.out (by kernel_rfl)) (fun _ _ _ h => h) (Or.inl ⟨by first | rfl | kernel_rfl, ?_⟩) hHeld ?_ ?_
      rotate_left
      · intro w' s0
        have z0 := (s0.cell (by exact lB9)).trans x0
        have z1 := (s0.cell (by exact lB9)).trans x1
        have z2 := (s0.cell (by exact lB9)).trans x2
        go_simp
        with_reducible rfl
      rotate_left
      · simp only [Act.put, List.setIfInBounds_toArray, List.set_cons_zero, List.set_cons_succ, i64_w, i32_w]
        rfl
      refine one_ (i := 8) (N := some 36) #[true, true, true, true, true, true, true, true, true, false, false, false, false, false, false, false, false, false, false, false] rfl rfl (one_of HT_.out (by kernel_rfl)) (by decide) (fun K hK => ?_)
      refine goes_ Try.func11 (by kernel_rfl) rfl #[.agg #[.int .i64 sh, .int .i64 ce, .slice V La.length cv]] (by first | rfl | kernel_rfl) rfl rfl (by first | rfl | kernel_rfl) ?_
      refine (tautochronelaw21_may.calls kl sh ce V cv La false _ (Kd.C_below hCV hHeld) hcv hkl).mono ?_
      rintro e w8 ⟨rfl, hb8⟩
      have hHeld := hHeld.trans (hb8.mono hHeld.size)
      refine ⟨_, rfl, hK.out _ _ hHeld (fun hHeld => ?_)⟩
      clear hK K
      refine norm_ (a' := ?_) ?_ ?_
      rotate_left
      · show Act.put _ (some 36) _ = _
        simp only [Act.put, List.setIfInBounds_toArray, List.set_cons_zero, List.set_cons_succ, i64_w, i32_w]
        rfl
      refine pure_ (i := 9) (N := some 37) (v := ?_) (a' := ?_) #[true, true, true, true, true, true, true, true, true, true, false, false, false, false, false, false, false, false, false, false] rfl rfl (any_of HT_.out (by kernel_rfl)) (fun _ _ _ h => h) (Or.inl ⟨by first | rfl | kernel_rfl, ?_⟩) ?_ ?_
      rotate_left
      · intro w'
        go_simp
        with_reducible rfl
      rotate_left
      · simp only [Act.put, List.setIfInBounds_toArray, List.set_cons_zero, List.set_cons_succ, i64_w, i32_w]
        rfl
      refine pure_ (i := 10) (N := some 38) (v := ?_) (a' := ?_) #[true, true, true, true, true, true, true, true, true, true, true, false, false, false, false, false, false, false, false, false] rfl rfl (any_of HT_.out (by kernel_rfl)) (fun _ _ _ h => h) (Or.inl ⟨by first | rfl | kernel_rfl, ?_⟩) ?_ ?_
      rotate_left
      · intro w'
        go_simp
        with_reducible rfl
      rotate_left
      · simp only [Act.put, List.setIfInBounds_toArray, List.set_cons_zero, List.set_cons_succ, i64_w, i32_w]
        rfl
      refine pure_ (i := 11) (N := some 39) (v := ?_) (a' := ?_) #[true, true, true, true, true, true, true, true, true, true, true, true, false, false, false, false, false, false, false, false] rfl rfl (any_of HT_.out (by kernel_rfl)) (fun _ _ _ h => h) (Or.inl ⟨by first | rfl | kernel_rfl, ?_⟩) ?_ ?_
      rotate_left
      · intro w'
        go_simp
        with_reducible rfl
      rotate_left
      · simp only [Act.put, List.setIfInBounds_toArray, List.set_cons_zero, List.set_cons_succ, i64_w, i32_w]
        rfl
      refine pure_ (i := 12) (N := some 40) (v := ?_) (a' := ?_) #[true, true, true, true, true, true, true, true, true, true, true, true, true, false, false, false, false, false, false, false] rfl rfl (any_of HT_.out (by kernel_rfl)) (fun _ _ _ h => h) (Or.inl ⟨by first | rfl | kernel_rfl, ?_⟩) ?_ ?_
      rotate_left
      · intro w'
        go_simp
        with_reducible rfl
      rotate_left
      · simp only [Act.put, List.setIfInBounds_toArray, List.set_cons_zero, List.set_cons_succ, i64_w, i32_w]
        rfl
      refine pure_ (i := 13) (N := some 41) (v := ?_) (a' := ?_) #[true, true, true, true, true, true, true, true, true, true, true, true, true, true, false, false, false, false, false, false] rfl rfl (any_of HT_.out (by kernel_rfl)) (fun _ _ _ h => h) (Or.inl ⟨by first | rfl | kernel_rfl, ?_⟩) ?_ ?_
      rotate_left
      · intro w'
        go_simp
        with_reducible rfl
      rotate_left
      · simp only [Act.put, List.setIfInBounds_toArray, List.set_cons_zero, List.set_cons_succ, i64_w, i32_w]
        rfl
      refine pure_ (i := 14) (N := some 42) (v := ?_) (a' := ?_) #[true, true, true, true, true, true, true, true, true, true, true, true, true, true, true, false, false, false, false, false] rfl rfl (any_of HT_.out (by kernel_rfl)) (fun _ _ _ h => h) (Or.inl ⟨by first | rfl | kernel_rfl, ?_⟩) ?_ ?_
      rotate_left
      · intro w'
        go_simp
        with_reducible rfl
      rotate_left
      · simp only [Act.put, List.setIfInBounds_toArray, List.set_cons_zero, List.set_cons_succ, i64_w, i32_w]
        rfl
      refine pure_ (i := 15) (N := some 43) (v := ?_) (a' := ?_) #[true, true, true, true, true, true, true, true, true, true, true, true, true, true, true, true, false, false, false, false] rfl rfl (any_of HT_.out (by kernel_rfl)) (fun _ _ _ h => h) (Or.inl ⟨by first | rfl | kernel_rfl, ?_⟩) ?_ ?_
      rotate_left
      · intro w'
        go_simp
        with_reducible rfl
      rotate_left
      · simp only [Act.put, List.setIfInBounds_toArray, List.set_cons_zero, List.set_cons_succ, i64_w, i32_w]
        rfl
      refine pure_ (i := 16) (N := some 44) (v := ?_) (a' := ?_) #[true, true, true, true, true, true, true, true, true, true, true, true, true, true, true, true, true, false, false, false] rfl rfl (any_of HT_.out (by kernel_rfl)) (fun _ _ _ h => h) (Or.inl ⟨by first | rfl | kernel_rfl, ?_⟩) ?_ ?_
      rotate_left
      · intro w'
        go_simp
        with_reducible rfl
      rotate_left
      · simp only [Act.put, List.setIfInBounds_toArray, List.set_cons_zero, List.set_cons_succ, i64_w, i32_w]
        rfl
      refine pure_ (i := 17) (N := some 45) (v := ?_) (a' := ?_) #[true, true, true, true, true, true, true, true, true, true, true, true, true, true, true, true, true, true, false, false] rfl rfl (any_of HT_.out (by kernel_rfl)) (fun _ _ _ h => h) (Or.inl ⟨by first | rfl | kernel_rfl, ?_⟩) ?_ ?_
      rotate_left
      · intro w'
        go_simp
        with_reducible rfl
      rotate_left
      · simp only [Act.put, List.setIfInBounds_toArray, List.set_cons_zero, List.set_cons_succ, i64_w, i32_w]
        rfl
      refine pure_ (i := 18) (N := some 46) (v := ?_) (a' := ?_) #[true, true, true, true, true, true, true, true, true, true, true, true, true, true, true, true, true, true, true, false] rfl rfl (any_of HT_.out (by kernel_rfl)) (fun _ _ _ h => h) (Or.inl ⟨by first | rfl | kernel_rfl, ?_⟩) ?_ ?_
      rotate_left
      · intro w'
        go_simp
        with_reducible rfl
      rotate_left
      · simp only [Act.put, List.setIfInBounds_toArray, List.set_cons_zero, List.set_cons_succ, i64_w, i32_w]
        rfl
      refine pure_ (i := 19) (N := some 8) (v := ?_) (a' := ?_) #[true, true, true, true, true, true, true, true, true, true, true, true, true, true, true, true, true, true, true, true] rfl rfl (any_of HT_.out (by kernel_rfl)) (fun _ _ _ h => h) (Or.inl ⟨by first | rfl | kernel_rfl, ?_⟩) ?_ ?_
      rotate_left
      · intro w'
        go_simp
        with_reducible rfl
      rotate_left
      · simp only [Act.put, List.setIfInBounds_toArray, List.set_cons_zero, List.set_cons_succ, i64_w, i32_w]
        rfl
      refine done_ (done_of HT_.out (by kernel_rfl)) ?_
      clear HT_ HW_
      have HB8 := HB7.trans (hHeld.mono HB7.size)
      go_wp2
      go_ret
      exact ⟨rfl, HB8⟩
end Go.Proofs.Yteajbeajkplplaa.Pure
