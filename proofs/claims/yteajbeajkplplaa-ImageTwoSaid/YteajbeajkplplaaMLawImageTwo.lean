/-
The law ImageTwo walked by hand, by the printed contracts of the functions that it calls: Two images have the same bytes just if they are the same. Conditions: as each theorem states them.
-/
import Derived.Test.YteajbeajkplplaaPureImA
import Derived.Test.YteajbeajkplplaaMImMake
import Derived.Test.YteajbeajkplplaaRows
import Derived.Test.YteajbeajkplplaaOpens
import Derived.WalkKit
import Derived.ProofKit
import Derived.OpenShut
import Derived.ShutString
import Derived.ChangeOld
import Derived.Below
import Derived.SizedLaws
import Derived.Lib.SmallJoins
set_option linter.unusedSimpArgs false
set_option linter.unusedVariables false
namespace Go.Proofs.Yteajbeajkplplaa.Pure
open Go.RowKit Go.Proofs.YteajbeajkplplaaW.PrintWords Go.Proofs.YteajbeajkplplaaW.PrintLast Go.Proofs.YteajbeajkplplaaW.PrintMore Go.Proofs.Yteajbeajkplplaa.Kit
open Go.Proofs.Yteajbeajkplplaa.PImageBytes
attribute [local go_sem] max2_int min2_int max_two min_two max_three min_three max_four min_four   -- for this text's walks alone
theorem info25 : (Try.prog.info? 25).map (fun i => (i.zero, i.size, i.bytes)) = some (some (.agg #[.int .i64 0, .int .i64 0, .slice none 0 0]), 3, 40) := by kernel_rfl
theorem enc_some {s c : Int} {L : List (List S46)} (h : imS s c L) : ∃ k, image_Encode.f k s c L = some (imB s c L, true) := by
  have := ienc_ev s c L (fun t ht => by have := (h.2.2.2.2 t ht).1.2.1; omega)
  rw [if_pos h] at this
  exact Ev.rounds this
theorem iawake_some : ∃ k, tautochronelaw21_awake.f k = some true := Ev.rounds iawake_ev
theorem im_len {s c : Int} {L : List (List S46)} (h : imS s c L) : L.length ≤ 16 ∧ ∀ t ∈ L, t.length ≤ 4096 := ⟨h.2.2.2.1, fun t ht => (h.2.2.2.2 t ht).1.2.1⟩
theorem ok_u64 {L : List (List S46)} (h : ∀ t ∈ L, ∀ x ∈ t, Ok46 x) : ∀ t ∈ L, ∀ x ∈ t, U64 x := fun t ht x hx => ⟨(h t ht x hx).v0, (h t ht x hx).v1⟩
def imtwo.T6 : Bool × List (List Nat × List Nat) := (true, [([], []), ([0], [0]), ([1], [1]), ([1, 2], [1, 2]), ([3, 1], [3]), ([4], [4]), ([5, 4], [4, 5]), ([4], [4]), ([7, 4], [4, 7]), ([6, 8, 4], [4, 6, 8]), ([4], [4]), ([4], [4]), ([10, 11, 4, 4], [4, 10, 11]), ([9, 12, 4], [4, 9, 12]), ([4, 13], [4, 13]), ([14, 12, 0, 1, 2, 3, 4, 5, 6, 7, 8, 9, 10, 11, 12, 13, 14], [14])])
def imtwo.B6 : List Nat := [0, 1, 3, 7, 15, 31, 63, 31, 159, 511, 31, 31, 3103, 8191, 16383, 32767]
theorem imtwo.tab6 : rtab .any (opsOf Try.f4 6) = imtwo.T6 := by kernel_rfl
theorem imtwo.bits6 : waitsOk imtwo.T6.2 imtwo.B6 = true := by kernel_rfl
set_option maxHeartbeats 4000000 in
set_option maxRecDepth 100000 in
theorem imtwo.calls (A0 : Option Addr) (c0 : Nat) (R0 : List (List S46)) (A1 : Option Addr) (c1 : Nat) (R1 : List (List S46)) (sh ce : Int) (w : World) (hr0 : Kd.C (Kd.slice 46 k46) w A0 R0.length R0) (hc0 : R0.length ≤ c0) (hr1 : Kd.C (Kd.slice 46 k46) w A1 R1.length R1) (hc1 : R1.length ≤ c1)
    (hl0 : R0.length ≤ 9223372036854775806) (hl1 : R1.length ≤ 9223372036854775806) (hs : 0 ≤ sh ∧ sh ≤ 255) (hce : 0 ≤ ce ∧ ce ≤ 255) (hu0 : ∀ t ∈ R0, ∀ x ∈ t, U64 x) (hu1 : ∀ t ∈ R1, ∀ x ∈ t, U64 x) :
    Calls Try.prog 4 #[.slice A0 R0.length c0, .slice A1 R1.length c1, .int .u8 sh, .int .u8 ce] w fun e w' => e = .returned (.bool true) ∧ Below w.heap.size w w' := by
  obtain ⟨ka, hka⟩ := iawake_some
  have hk0 := fun wx (hb : Below w.heap.size w wx) => mkI.calls A0 c0 R0 sh ce wx (Kd.C_below hr0 hb) hc0 hl0 hs hce hu0
  have hk1 := fun wx (hb : Below w.heap.size w wx) => mkI.calls A1 c1 R1 sh ce wx (Kd.C_below hr1 hb) hc1 hl1 hs hce hu1
  obtain ⟨hm0, hx0⟩ := mkI_ok R0 sh ce hs hce hu0
  obtain ⟨hm1, hx1⟩ := mkI_ok R1 sh ce hs hce hu1
  generalize (R0.take 16).map (thM (ce + 1)) = Ka at hk0 hm0 hx0
  generalize (R1.take 16).map (thM (ce + 1)) = La at hk1 hm1 hx1
  generalize sh % (ce + 2) = s at hk0 hk1 hm0 hm1
  generalize ce + 1 = c at hk0 hk1 hm0 hm1
  obtain ⟨ke0, hke0⟩ := enc_some hm0
  obtain ⟨ke1, hke1⟩ := enc_some hm1
  obtain ⟨bE, hbE⟩ : ∃ b, b = decide (Ka = La) := ⟨_, rfl⟩
  have hsm : ∃ k, tautochronelaw21_Same.f k s c Ka s c La = some bE := by
    have := same_ev s c s c Ka La (im_len hm0).1 (im_len hm0).2
    rw [show decide (s = s ∧ c = c ∧ Ka = La) = bE by rw [hbE]; exact decide_eq_decide.mpr ⟨fun h => h.2.2, fun h => ⟨rfl, rfl, h⟩⟩] at this
    exact Ev.rounds this
  obtain ⟨ks, hks⟩ := hsm
  have hstr : ((strOfNums (imB s c Ka)).toList == (strOfNums (imB s c La)).toList) = bE := by
    rw [str_inj (imB_byte s c Ka) (imB_byte s c La), hbE, decide_eq_decide]
    constructor
    · intro h
      exact (imB_inj (r := []) (q := []) hm0 hm1 (ok_u64 hx0) (ok_u64 hx1) (by rw [h])).2.2.1
    · intro h; rw [h]
  generalize imB s c Ka = B0 at hke0 hstr
  generalize imB s c La = B1 at hke1 hstr
  replace hm0 := Aside0.mk hm0
  replace hm1 := Aside0.mk hm1
  replace hx0 := Aside0.mk hx0
  replace hx1 := Aside0.mk hx1
  replace hbE := Aside0.mk hbE
  replace hu0 := Aside0.mk hu0
  replace hu1 := Aside0.mk hu1
  replace hk0 := Aside0.mk hk0
  replace hk1 := Aside0.mk hk1
  go_enter Try.func4, Try.ntmps4
  have T0 := hk0.out
  have T1 := hk1.out
  go_upto_region 3 with (first
    | (go_at_call 7; refine (tautochronelaw21_awake.calls ka true _ hka).mono ?_; rintro e w1 ⟨rfl, hb1⟩)
    | go_in)
  have tok1 : True := trivial
  go_upto_region 4 with (first
    | (go_at_call 8; have _t := tok1; refine (T0 w1 hb1).mono ?_; rintro e w2 ⟨v0, rfl, hS0, hb2⟩; clear tok1 _t T0; have HB2 := hb1.trans (hb2.mono hb1.size); obtain ⟨V0, cv0, rfl, hcv0, hCV0⟩ := Kd.S_reads hS0; clear hS0 hb1 hb2)
    | (go_at_call 8; refine (T1 w2 HB2).mono ?_; rintro e w3 ⟨v1, rfl, hS1, hb3⟩; clear T1; have HB3 := HB2.trans (hb3.mono HB2.size); obtain ⟨V1, cv1, rfl, hcv1, hCV1⟩ := Kd.S_reads hS1; have hCV0 := Kd.C_below hCV0 hb3; clear hS1 HB2 hb3)
    | go_in)
  have e9a := heap_alloc_new w3 (Obj.cells #[.int .i64 s, .int .i64 c, .slice V0 Ka.length cv0] 25 (0, 0))
  have e10 := heap_alloc_new (w3.alloc (Obj.cells #[.int .i64 s, .int .i64 c, .slice V0 Ka.length cv0] 25 (0, 0))) (Obj.cells #[.int .i64 s, .int .i64 c, .slice V1 La.length cv1] 25 (0, 0))
  have hb5 : Below w3.heap.size w3 ((w3.alloc (Obj.cells #[.int .i64 s, .int .i64 c, .slice V0 Ka.length cv0] 25 (0, 0))).alloc (Obj.cells #[.int .i64 s, .int .i64 c, .slice V1 La.length cv1] 25 (0, 0))) := ((Below.refl _ _).alloc (Nat.le_refl _) _).alloc (by simp) _
  have e9 := (Below.heap_alloc (w3.alloc (Obj.cells #[.int .i64 s, .int .i64 c, .slice V0 Ka.length cv0] 25 (0, 0))) (Obj.cells #[.int .i64 s, .int .i64 c, .slice V1 La.length cv1] 25 (0, 0)) w3.heap.size (by simp)).trans e9a
  rw [show (w3.alloc (Obj.cells #[.int .i64 s, .int .i64 c, .slice V0 Ka.length cv0] 25 (0, 0))).heap.size = w3.heap.size + 1 by simp] at e10
  clear e9a
  have HB5 := HB3.trans (hb5.mono HB3.size)
  have hCV0 := Kd.C_below hCV0 hb5
  have hCV1 := Kd.C_below hCV1 hb5
  generalize (w3.alloc (Obj.cells #[.int .i64 s, .int .i64 c, .slice V0 Ka.length cv0] 25 (0, 0))).alloc (Obj.cells #[.int .i64 s, .int .i64 c, .slice V1 La.length cv1] 25 (0, 0)) = w5 at e9 e10 hb5 HB5 hCV0 hCV1 ⊢
  obtain ⟨B9, hB9⟩ : ∃ B, B = w3.heap.size := ⟨_, rfl⟩
  rw [← hB9] at e9 e10 ⊢
  obtain ⟨B10, hB10⟩ : ∃ B, B = B9 + 1 := ⟨_, rfl⟩
  rw [← hB10] at e10 ⊢
  replace hB9 := Aside0.mk hB9
  replace hB10 := Aside0.mk hB10
  clear HB3 hb5
  have x0 : w5.cell? ⟨B9, 0, none⟩ = some (.int .i64 s) := by simp [World.cell?, e9]
  have x1 : w5.cell? ⟨B9, 1, none⟩ = some (.int .i64 c) := by simp [World.cell?, e9]
  have x2 : w5.cell? ⟨B9, 2, none⟩ = some (.slice V0 Ka.length cv0) := by simp [World.cell?, e9]
  have TE0 := image_Encode.calls ke0 s c V0 cv0 Ka B0 true w5 hCV0 hcv0 hke0
  go_upto_region 5 with (first
    | (go_at_call 9; refine TE0.mono ?_; rintro e w6 ⟨vb0, rfl, hR0, hb6⟩)
    | go_in)
  clear TE0 x0 x1 x2
  have e9 := (hb6.block B9 (Array.getElem?_eq_some_iff.mp e9).1).trans e9
  have e10 := (hb6.block B10 (Array.getElem?_eq_some_iff.mp e10).1).trans e10
  have HB6 := HB5.trans (hb6.mono HB5.size)
  have hCV0 := Kd.C_below hCV0 hb6
  have hCV1 := Kd.C_below hCV1 hb6
  clear HB5 hb6
  have x0 : w6.cell? ⟨B10, 0, none⟩ = some (.int .i64 s) := by simp [World.cell?, e10]
  have x1 : w6.cell? ⟨B10, 1, none⟩ = some (.int .i64 c) := by simp [World.cell?, e10]
  have x2 : w6.cell? ⟨B10, 2, none⟩ = some (.slice V1 La.length cv1) := by simp [World.cell?, e10]
  have TE1 := image_Encode.calls ke1 s c V1 cv1 La B1 true w6 hCV1 hcv1 hke1
  go_upto_region 6 with (first
    | (go_at_call 9; refine TE1.mono ?_; rintro e w7 ⟨vb1, rfl, hR1, hb7⟩)
    | go_in)
  clear TE1 x0 x1 x2
  have e9 := (hb7.block B9 (Array.getElem?_eq_some_iff.mp e9).1).trans e9
  have e10 := (hb7.block B10 (Array.getElem?_eq_some_iff.mp e10).1).trans e10
  have HB7 := HB6.trans (hb7.mono HB6.size)
  have hCV0 := Kd.C_below hCV0 hb7
  have hCV1 := Kd.C_below hCV1 hb7
  have hR0 := Kd.R_below hR0 hb7
  clear HB6 hb7
  obtain ⟨U0, cu0, rfl, hcu0, hCU0⟩ := Kd.R_reads hR0
  obtain ⟨U1, cu1, rfl, hcu1, hCU1⟩ := Kd.R_reads hR1
  clear hR0 hR1
  have lB9 : B9 < w7.heap.size := (Array.getElem?_eq_some_iff.mp e9).1
  have lB10 : B10 < w7.heap.size := (Array.getElem?_eq_some_iff.mp e10).1
  have x0 : w7.cell? ⟨B9, 0, none⟩ = some (.int .i64 s) := by simp [World.cell?, e9]
  have x1 : w7.cell? ⟨B9, 1, none⟩ = some (.int .i64 c) := by simp [World.cell?, e9]
  have x2 : w7.cell? ⟨B9, 2, none⟩ = some (.slice V0 Ka.length cv0) := by simp [World.cell?, e9]
  have y0 : w7.cell? ⟨B10, 0, none⟩ = some (.int .i64 s) := by simp [World.cell?, e10]
  have y1 : w7.cell? ⟨B10, 1, none⟩ = some (.int .i64 c) := by simp [World.cell?, e10]
  have y2 : w7.cell? ⟨B10, 2, none⟩ = some (.slice V1 La.length cv1) := by simp [World.cell?, e10]
  refine start_ (n := 16) (S := fun w' => Below w7.heap.size w7 w') (ds := []) #[false, false, false, false, false, false, false, false, false, false, false, false, false, false, false, false] (by kernel_rfl) rfl rfl (below_drew (Below.refl _ _)) (fun hHeld => ?_); refine with_tabW imtwo.tab6 imtwo.bits6 (fun HT_ HW_ => ?_)
  refine pure_ (i := 0) (N := some 35) (v := ?_) (a' := ?_) #[true, false, false, false, false, false, false, false, false, false, false, false, false, false, false, false] rfl rfl (any_of HT_.out (by kernel_rfl)) (fun _ _ _ h => h) (Or.inl ⟨by first | rfl | kernel_rfl, ?_⟩) ?_ ?_
  rotate_left
  · intro w'
    go_simp
    with_reducible rfl
  rotate_left
  · simp only [Act.put, List.setIfInBounds_toArray, List.set_cons_zero, List.set_cons_succ, i64_w, i32_w]
    rfl
  refine pure_ (i := 1) (N := some 36) (v := ?_) (a' := ?_) #[true, true, false, false, false, false, false, false, false, false, false, false, false, false, false, false] rfl rfl (any_of HT_.out (by kernel_rfl)) (fun _ _ _ h => h) (Or.inl ⟨by first | rfl | kernel_rfl, ?_⟩) ?_ ?_
  rotate_left
  · intro w'
    go_simp
    with_reducible rfl
  rotate_left
  · simp only [Act.put, List.setIfInBounds_toArray, List.set_cons_zero, List.set_cons_succ, i64_w, i32_w]
    rfl
  refine pure_ (i := 2) (N := some 37) (v := ?_) (a' := ?_) #[true, true, true, false, false, false, false, false, false, false, false, false, false, false, false, false] rfl rfl (any_of HT_.out (by kernel_rfl)) (fun _ _ _ h => h) (Or.inl ⟨by first | rfl | kernel_rfl, ?_⟩) ?_ ?_
  rotate_left
  · intro w'
    go_simp
    with_reducible rfl
  rotate_left
  · simp only [Act.put, List.setIfInBounds_toArray, List.set_cons_zero, List.set_cons_succ, i64_w, i32_w]
    rfl
  refine pure_ (i := 3) (N := some 38) (v := ?_) (a' := ?_) #[true, true, true, true, false, false, false, false, false, false, false, false, false, false, false, false] rfl rfl (any_of HT_.out (by kernel_rfl)) (fun _ _ _ h => h) (Or.inl ⟨by first | rfl | kernel_rfl, ?_⟩) ?_ ?_
  rotate_left
  · intro w'
    go_simp
    with_reducible rfl
  rotate_left
  · simp only [Act.put, List.setIfInBounds_toArray, List.set_cons_zero, List.set_cons_succ, i64_w, i32_w]
    rfl
  refine pure_ (i := 4) (N := some 39) (v := ?_) (a' := ?_) #[true, true, true, true, true, false, false, false, false, false, false, false, false, false, false, false] rfl rfl (any_of HT_.out (by kernel_rfl)) (fun _ _ _ h => h) (Or.inl ⟨by first | rfl | kernel_rfl, ?_⟩) ?_ ?_
  rotate_left
  · intro w'
    go_simp
    with_reducible rfl
  rotate_left
  · simp only [Act.put, List.setIfInBounds_toArray, List.set_cons_zero, List.set_cons_succ, i64_w, i32_w]
    rfl
  refine pure_ (i := 5) (N := some 40) (v := ?_) (a' := ?_) #[true, true, true, true, true, true, false, false, false, false, false, false, false, false, false, false] rfl rfl (any_of HT_.out (by kernel_rfl)) (fun _ _ _ h => h) (Or.inl ⟨by first | rfl | kernel_rfl, ?_⟩) ?_ ?_
  rotate_left
  · intro w'
    go_simp
    with_reducible rfl
  rotate_left
  · simp only [Act.put, List.setIfInBounds_toArray, List.set_cons_zero, List.set_cons_succ, i64_w, i32_w]
    rfl
  refine take_ (i := 6) (N := some 41) (v := ?_) (a' := ?_) #[true, true, true, true, true, true, true, false, false, false, false, false, false, false, false, false] rfl rfl (take_ofW HT_.out HW_.out (by kernel_rfl)) (fun _ _ _ h => h) (Or.inl ⟨by first | rfl | kernel_rfl, ?_⟩) hHeld ?_ ?_
  rotate_left
  · intro w' s0
    have zc := Kd.C_string (P := Try.prog) (c := cu0) Try.underlying27 Try.underlying5 Try.underlying9 (Kd.C_below hCU0 s0)
    go_simp
    with_reducible rfl
  rotate_left
  · simp only [Act.put, List.setIfInBounds_toArray, List.set_cons_zero, List.set_cons_succ, i64_w, i32_w]
    rfl
  refine pure_ (i := 7) (N := some 42) (v := ?_) (a' := ?_) #[true, true, true, true, true, true, true, true, false, false, false, false, false, false, false, false] rfl rfl (any_of HT_.out (by kernel_rfl)) (fun _ _ _ h => h) (Or.inl ⟨by first | rfl | kernel_rfl, ?_⟩) ?_ ?_
  rotate_left
  · intro w'
    go_simp
    with_reducible rfl
  rotate_left
  · simp only [Act.put, List.setIfInBounds_toArray, List.set_cons_zero, List.set_cons_succ, i64_w, i32_w]
    rfl
  refine take_ (i := 8) (N := some 43) (v := ?_) (a' := ?_) #[true, true, true, true, true, true, true, true, true, false, false, false, false, false, false, false] rfl rfl (take_ofW HT_.out HW_.out (by kernel_rfl)) (fun _ _ _ h => h) (Or.inl ⟨by first | rfl | kernel_rfl, ?_⟩) hHeld ?_ ?_
  rotate_left
  · intro w' s0
    have zc := Kd.C_string (P := Try.prog) (c := cu1) Try.underlying27 Try.underlying5 Try.underlying9 (Kd.C_below hCU1 s0)
    go_simp
    with_reducible rfl
  rotate_left
  · simp only [Act.put, List.setIfInBounds_toArray, List.set_cons_zero, List.set_cons_succ, i64_w, i32_w]
    rfl
  refine pure_ (i := 9) (N := some 44) (v := ?_) (a' := ?_) #[true, true, true, true, true, true, true, true, true, true, false, false, false, false, false, false] rfl rfl (any_of HT_.out (by kernel_rfl)) (fun _ _ _ h => h) (Or.inl ⟨by first | rfl | kernel_rfl, ?_⟩) ?_ ?_
  rotate_left
  · intro w'
    go_simp
    with_reducible rfl
  rotate_left
  · simp only [Act.put, List.setIfInBounds_toArray, List.set_cons_zero, List.set_cons_succ, i64_w, i32_w]
    rfl
  refine take_ (i := 10) (N := some 45) (v := ?_) (a' := ?_) #[true, true, true, true, true, true, true, true, true, true, true, false, false, false, false, false] rfl rfl (take_ofW HT_.out HW_.out (by kernel_rfl)) (fun _ _ _ h => h) (Or.inl ⟨by first | rfl | kernel_rfl, ?_⟩) hHeld ?_ ?_
  rotate_left
  · intro w' s0
    have z0 := (s0.cell (by exact lB9)).trans x0
    have z1 := (s0.cell (by exact lB9)).trans x1
    have z2 := (s0.cell (by exact lB9)).trans x2
    go_simp
    with_reducible rfl
  rotate_left
  · simp only [Act.put, List.setIfInBounds_toArray, List.set_cons_zero, List.set_cons_succ, i64_w, i32_w]
    rfl
  refine take_ (i := 11) (N := some 46) (v := ?_) (a' := ?_) #[true, true, true, true, true, true, true, true, true, true, true, true, false, false, false, false] rfl rfl (take_ofW HT_.out HW_.out (by kernel_rfl)) (fun _ _ _ h => h) (Or.inl ⟨by first | rfl | kernel_rfl, ?_⟩) hHeld ?_ ?_
  rotate_left
  · intro w' s0
    have z0 := (s0.cell (by exact lB10)).trans y0
    have z1 := (s0.cell (by exact lB10)).trans y1
    have z2 := (s0.cell (by exact lB10)).trans y2
    go_simp
    with_reducible rfl
  rotate_left
  · simp only [Act.put, List.setIfInBounds_toArray, List.set_cons_zero, List.set_cons_succ, i64_w, i32_w]
    rfl
  refine one_ (i := 12) (N := some 47) #[true, true, true, true, true, true, true, true, true, true, true, true, true, false, false, false] rfl rfl (one_of HT_.out (by kernel_rfl)) (by decide) (fun K hK => ?_)
  refine goes_ Try.func12 (by kernel_rfl) rfl #[.agg #[.int .i64 s, .int .i64 c, .slice V0 Ka.length cv0], .agg #[.int .i64 s, .int .i64 c, .slice V1 La.length cv1]] (by first | rfl | kernel_rfl) rfl rfl (by first | rfl | kernel_rfl) ?_
  refine (tautochronelaw21_Same.calls ks s c V0 cv0 Ka s c V1 cv1 La bE _ (Kd.C_below hCV0 hHeld) hcv0 (Kd.C_below hCV1 hHeld) hcv1 hks).mono ?_
  rintro e w8 ⟨rfl, hb8⟩
  have hHeld' := hHeld.trans (hb8.mono hHeld.size)
  refine ⟨_, rfl, hK.out _ _ hHeld' (fun hHeld => ?_)⟩
  clear hK K
  refine norm_ (a' := ?_) ?_ ?_
  rotate_left
  · show Act.put _ (some 47) _ = _
    simp only [Act.put, List.setIfInBounds_toArray, List.set_cons_zero, List.set_cons_succ, i64_w, i32_w]
    rfl
  refine pure_ (i := 13) (N := some 48) (v := ?_) (a' := ?_) #[true, true, true, true, true, true, true, true, true, true, true, true, true, true, false, false] rfl rfl (any_of HT_.out (by kernel_rfl)) (fun _ _ _ h => h) (Or.inl ⟨by first | rfl | kernel_rfl, ?_⟩) ?_ ?_
  rotate_left
  · intro w'
    go_simp
    with_reducible rfl
  rotate_left
  · simp only [Act.put, List.setIfInBounds_toArray, List.set_cons_zero, List.set_cons_succ, i64_w, i32_w]
    rfl
  refine pure_ (i := 14) (N := some 49) (v := ?_) (a' := ?_) #[true, true, true, true, true, true, true, true, true, true, true, true, true, true, true, false] rfl rfl (any_of HT_.out (by kernel_rfl)) (fun _ _ _ h => h) (Or.inl ⟨by first | rfl | kernel_rfl, ?_⟩) ?_ ?_
  rotate_left
  · intro w'
    go_simp
    with_reducible rfl
  rotate_left
  · simp only [Act.put, List.setIfInBounds_toArray, List.set_cons_zero, List.set_cons_succ, i64_w, i32_w]
    rfl
  refine pure_ (i := 15) (N := some 8) (v := ?_) (a' := ?_) #[true, true, true, true, true, true, true, true, true, true, true, true, true, true, true, true] rfl rfl (any_of HT_.out (by kernel_rfl)) (fun _ _ _ h => h) (Or.inl ⟨by first | rfl | kernel_rfl, ?_⟩) ?_ ?_
  rotate_left
  · intro w'
    go_simp
    with_reducible rfl
  rotate_left
  · simp only [Act.put, List.setIfInBounds_toArray, List.set_cons_zero, List.set_cons_succ, i64_w, i32_w]
    rfl
  refine done_ (done_of HT_.out (by kernel_rfl)) ?_
  clear HT_ HW_
  have HB8 := HB7.trans (hHeld.mono HB7.size)
  go_wp2
  go_ret
  exact ⟨rfl, HB8⟩
end Go.Proofs.Yteajbeajkplplaa.Pure
