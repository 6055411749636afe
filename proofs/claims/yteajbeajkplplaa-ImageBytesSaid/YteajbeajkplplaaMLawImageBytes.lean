/-
The law ImageBytes walked by hand, by the printed contracts of the functions that it calls: An image has bytes, and is read of them. Conditions: as each theorem states them.
-/
import Derived.Test.YteajbeajkplplaaMImDecode
import Derived.Test.YteajbeajkplplaaMImMake
import Derived.Test.YteajbeajkplplaaMImMay
import Derived.Test.YteajbeajkplplaaPureImC
import Derived.Test.YteajbeajkplplaaRows
import Derived.Test.YteajbeajkplplaaOpens
import Derived.WalkKit
import Derived.ProofKit
import Derived.OpenShut
import Derived.ShutString
import Derived.ChangeOld
import Derived.Below
import Derived.SizedLaws
import Derived.Lib.SmallJoins
set_option linter.unusedSimpArgs false
set_option linter.unusedVariables false
namespace Go.Proofs.Yteajbeajkplplaa.Pure
open Go.RowKit Go.Proofs.YteajbeajkplplaaW.PrintWords Go.Proofs.YteajbeajkplplaaW.PrintLast Go.Proofs.YteajbeajkplplaaW.PrintMore Go.Proofs.Yteajbeajkplplaa.Kit
open Go.Proofs.Yteajbeajkplplaa.PImageBytes
attribute [local go_sem] max2_int min2_int max_two min_two max_three min_three max_four min_four   -- for this text's walks alone
theorem enc_someB {s c : Int} {L : List (List S46)} (h : imS s c L) : ∃ k, image_Encode.f k s c L = some (imB s c L, true) := by
  have := ienc_ev s c L (fun t ht => by have := (h.2.2.2.2 t ht).1.2.1; omega)
  rw [if_pos h] at this
  exact Ev.rounds this
theorem ths_length (L : List (List S46)) (h : ∀ t ∈ L, t.length ≤ 4096) : (L.flatMap thB).length ≤ L.length * 65540 := by
  induction L with
  | nil => simp
  | cons t L ih =>
    have h1 := ih (fun u hu => h u (List.mem_cons_of_mem _ hu))
    have h2 := h t (by simp)
    have h3 := flat_lenX t
    rw [List.flatMap_cons, List.length_append, thB, List.length_append, h3, List.length_cons]
    have h4 : (b4 (t.length : Int)).length = 4 := rfl
    omega
theorem im_length {s c : Int} {L : List (List S46)} (h : imS s c L) : (imB s c L).length ≤ 35184372088816 := by
  have h1 := ths_length L (fun t ht => (h.2.2.2.2 t ht).1.2.1)
  have h2 := h.2.2.2.1
  unfold imB
  simp only [List.length_append]
  have h3 : ∀ n : Int, (b4 n).length = 4 := fun _ => rfl
  simp only [h3]
  omega
theorem ok_u64B {L : List (List S46)} (h : ∀ t ∈ L, ∀ x ∈ t, Ok46 x) : ∀ t ∈ L, ∀ x ∈ t, U64 x := fun t ht x hx => ⟨(h t ht x hx).v0, (h t ht x hx).v1⟩
theorem awake_some5 : ∃ k, tautochronelaw21_awake.f k = some true := Ev.rounds iawake_ev
def imbytes.T6 : Bool × List (List Nat × List Nat) := (true, [([], []), ([0], [0]), ([1, 1], [1]), ([2], [2]), ([3, 2, 2], [2, 3]), ([2, 4], [2, 4]), ([5, 4], [5]), ([6], [6]), ([6, 7], [6, 7]), ([8, 6], [8]), ([9], [9]), ([10, 9], [9, 10]), ([9], [9]), ([12, 9, 9], [9, 12]), ([13, 9], [9, 13]), ([11, 14, 9], [9, 11, 14]), ([9, 15], [9, 15]), ([16, 13], [16]), ([17], [17]), ([17, 18], [17, 18]), ([19, 17], [19]), ([20], [20]), ([20], [20]), ([21, 22, 20, 20], [20, 21, 22]), ([20, 23], [20, 23]), ([24, 23, 0, 1, 2, 3, 4, 5, 6, 7, 8, 9, 10, 11, 12, 13, 14, 15, 16, 17, 18, 19, 20, 21, 22, 23, 24], [24])])
def imbytes.B6 : List Nat := [0, 1, 3, 7, 15, 31, 63, 127, 255, 511, 1023, 2047, 1023, 5119, 13311, 32767, 65535, 131071, 262143, 524287, 1048575, 2097151, 2097151, 8388607, 16777215, 33554431]
theorem imbytes.tab6 : rtab .any (opsOf Try.f5 6) = imbytes.T6 := by kernel_rfl
theorem imbytes.bits6 : waitsOk imbytes.T6.2 imbytes.B6 = true := by kernel_rfl
set_option maxHeartbeats 4000000 in
set_option maxRecDepth 100000 in
theorem imbytes.calls (A0 : Option Addr) (c0 : Nat) (R : List (List S46)) (sh ce : Int) (w : World) (hr0 : Kd.C (Kd.slice 46 k46) w A0 R.length R) (hc0 : R.length ≤ c0)
    (hl0 : R.length ≤ 9223372036854775806) (hs : 0 ≤ sh ∧ sh ≤ 255) (hce : 0 ≤ ce ∧ ce ≤ 255) (hu0 : ∀ t ∈ R, ∀ x ∈ t, U64 x) :
    Calls Try.prog 5 #[.slice A0 R.length c0, .int .u8 sh, .int .u8 ce] w fun e w' => e = .returned (.bool true) ∧ Below w.heap.size w w' := by
  obtain ⟨ka, hka⟩ := awake_some5
  have TM := fun wx (hb : Below w.heap.size w wx) => mkI.calls A0 c0 R sh ce wx (Kd.C_below hr0 hb) hc0 hl0 hs hce hu0
  obtain ⟨hm, hx⟩ := mkI_ok R sh ce hs hce hu0
  generalize (R.take 16).map (thM (ce + 1)) = L at TM hm hx
  generalize sh % (ce + 2) = s at TM hm
  generalize ce + 1 = c at TM hm
  obtain ⟨ke, hke⟩ := enc_someB hm
  replace hm := Aside0.mk hm
  replace hx := Aside0.mk hx
  replace hu0 := Aside0.mk hu0
  replace TM := Aside0.mk TM
  go_enter Try.func5, Try.ntmps5
  go_upto_region 4 with (first
    | (go_at_call 7; refine (tautochronelaw21_awake.calls ka true _ hka).mono ?_; rintro e w1 ⟨rfl, hb1⟩)
    | (go_at_call 8; refine (TM.out w1 hb1).mono ?_; rintro e w2 ⟨v0, rfl, hS0, hb2⟩; have HB2 := hb1.trans (hb2.mono hb1.size); obtain ⟨V0, cv0, rfl, hcv0, hCV0⟩ := Kd.S_reads hS0; clear hS0 hb1 hb2)
    | go_in)
  have e7 := heap_alloc_new w2 (Obj.cells #[.int .i64 s, .int .i64 c, .slice V0 L.length cv0] 25 (0, 0))
  have hb3 : Below w2.heap.size w2 (w2.alloc (Obj.cells #[.int .i64 s, .int .i64 c, .slice V0 L.length cv0] 25 (0, 0))) := (Below.refl _ _).alloc (Nat.le_refl _) _
  have HB3 := HB2.trans (hb3.mono HB2.size)
  have hCV0 := Kd.C_below hCV0 hb3
  generalize w2.alloc (Obj.cells #[.int .i64 s, .int .i64 c, .slice V0 L.length cv0] 25 (0, 0)) = w3 at e7 HB3 hCV0 ⊢
  generalize w2.heap.size = B7 at e7 ⊢
  clear hb3 HB2
  have x0 := blk_cell e7 0
  have x1 := blk_cell e7 1
  have x2 := blk_cell e7 2
  have TE := image_Encode.calls ke s c V0 cv0 L (imB s c L) true w3 hCV0 hcv0 hke
  go_upto_region 5 with (first
    | (go_at_call 9; refine TE.mono ?_; rintro e w4 ⟨vb, rfl, hRb, hb4⟩)
    | go_in)
  have e7 := blk_below e7 hb4
  have HB4 := HB3.trans (hb4.mono HB3.size)
  have hCV0 := Kd.C_below hCV0 hb4
  obtain ⟨Ub, cub, rfl, hcub, hCUb⟩ := Kd.R_reads hRb
  clear hRb x0 x1 x2 TE HB3 hb4
  have TD := idec.calls Ub cub (imB s c L) w4 hCUb hcub (imB_byte s c L) (im_length hm.out)
  go_upto_region 6 with (first
    | (go_at_call 13; refine TD.mono ?_; rintro e w5 ⟨hb5, ⟨s2, c2, L2, V2, cv2, rfl, him2, hu2, hB2, hcv2, hCV2⟩ | ⟨_, hno⟩⟩; rotate_left; exact absurd rfl (hno s c L hm.out (ok_u64B hx.out)))
    | go_in)
  obtain ⟨es, ec, eL, _⟩ := imB_inj (r := []) (q := []) hm.out him2 (ok_u64B hx.out) hu2 (by rw [hB2])
  subst es ec eL
  clear hB2 him2 hu2
  have e7 := blk_below e7 hb5
  have HB5 := HB4.trans (hb5.mono HB4.size)
  have hCV0 := Kd.C_below hCV0 hb5
  have hCUb := Kd.C_below hCUb hb5
  have e10 := heap_alloc_new w5 (Obj.cells #[.int .i64 s, .int .i64 c, .slice V2 L.length cv2] 25 (0, 0))
  have hb6 : Below w5.heap.size w5 (w5.alloc (Obj.cells #[.int .i64 s, .int .i64 c, .slice V2 L.length cv2] 25 (0, 0))) := (Below.refl _ _).alloc (Nat.le_refl _) _
  have e7 := blk_below e7 hb6
  have HB7 := HB5.trans (hb6.mono HB5.size)
  have hCV0 := Kd.C_below hCV0 hb6
  have hCUb := Kd.C_below hCUb hb6
  have hCV2 := Kd.C_below hCV2 hb6
  generalize w5.alloc (Obj.cells #[.int .i64 s, .int .i64 c, .slice V2 L.length cv2] 25 (0, 0)) = w7 at e7 e10 HB7 hCV0 hCUb hCV2 ⊢
  generalize w5.heap.size = B10 at e10 ⊢
  clear hb6 hb5 HB4 HB5 TD
  have hlen : ∀ t ∈ L, t.length ≤ 9223372036854775807 := fun t ht => by have := (hm.out.2.2.2.2 t ht).1.2.1; omega
  obtain ⟨km, hkm⟩ : ∃ k, image_May.f k s c L = some true := by
    have := imay_ev s c L hlen
    rw [decide_eq_true hm.out] at this
    exact Ev.rounds this
  obtain ⟨kb, hkb⟩ : ∃ k, tautochronelaw21_bytes.f k s c L = some (imB s c L) := Ev.rounds (lbytes_ev s c L hm.out)
  obtain ⟨ks, hks⟩ : ∃ k, tautochronelaw21_Same.f k s c L s c L = some true := by
    have := same_ev s c s c L L hm.out.2.2.2.1 (fun t ht => (hm.out.2.2.2.2 t ht).1.2.1)
    rw [decide_eq_true (show s = s ∧ c = c ∧ L = L from ⟨rfl, rfl, rfl⟩)] at this
    exact Ev.rounds this
  replace hlen := Aside0.mk hlen
  have lB7 : B7 < w7.heap.size := (Array.getElem?_eq_some_iff.mp e7).1
  have lB10 : B10 < w7.heap.size := (Array.getElem?_eq_some_iff.mp e10).1
  have x0 : w7.cell? ⟨B7, 0, none⟩ = some (.int .i64 s) := (blk_cell e7 0).trans rfl
  have x1 : w7.cell? ⟨B7, 1, none⟩ = some (.int .i64 c) := (blk_cell e7 1).trans rfl
  have x2 : w7.cell? ⟨B7, 2, none⟩ = some (.slice V0 L.length cv0) := (blk_cell e7 2).trans rfl
  have y0 : w7.cell? ⟨B10, 0, none⟩ = some (.int .i64 s) := (blk_cell e10 0).trans rfl
  have y1 : w7.cell? ⟨B10, 1, none⟩ = some (.int .i64 c) := (blk_cell e10 1).trans rfl
  have y2 : w7.cell? ⟨B10, 2, none⟩ = some (.slice V2 L.length cv2) := (blk_cell e10 2).trans rfl
  refine start_ (n := 26) (S := fun w' => Below w7.heap.size w7 w') (ds := []) #[false, false, false, false, false, false, false, false, false, false, false, false, false, false, false, false, false, false, false, false, false, false, false, false, false, false] (by kernel_rfl) rfl rfl (below_drew (Below.refl _ _)) (fun hHeld => ?_); refine with_tabW imbytes.tab6 imbytes.bits6 (fun HT_ HW_ => ?_)
  refine take_ (i := 0) (N := some 28) (v := ?_) (a' := ?_) #[true, false, false, false, false, false, false, false, false, false, false, false, false, false, false, false, false, false, false, false, false, false, false, false, false, false] rfl rfl (take_ofW HT_.out HW_.out (by kernel_rfl)) (fun _ _ _ h => h) (Or.inl ⟨by first | rfl | kernel_rfl, ?_⟩) hHeld ?_ ?_
  rotate_left
  · intro w' s0
    have z0 := (s0.cell (by exact lB7)).trans x0
    have z1 := (s0.cell (by exact lB7)).trans x1
    have z2 := (s0.cell (by exact lB7)).trans x2
    go_simp
    with_reducible rfl
  rotate_left
  · simp only [Act.put, List.setIfInBounds_toArray, List.set_cons_zero, List.set_cons_succ, i64_w, i32_w]
    rfl
  refine one_ (i := 1) (N := some 29) #[true, true, false, false, false, false, false, false, false, false, false, false, false, false, false, false, false, false, false, false, false, false, false, false, false, false] rfl rfl (one_of HT_.out (by kernel_rfl)) (by decide) (fun K hK => ?_)
  refine goes_ Try.func11 (by kernel_rfl) rfl #[.agg #[.int .i64 s, .int .i64 c, .slice V0 L.length cv0]] (by first | rfl | kernel_rfl) rfl rfl (by first | rfl | kernel_rfl) ?_
  refine (lmayT.calls s c V0 cv0 L  _ (Kd.C_below hCV0 hHeld) hcv0 hm.out (ok_u64B hx.out)).mono ?_
  rintro e w8 ⟨rfl, hb8⟩
  have hHeld := hHeld.trans (hb8.mono hHeld.size)
  refine ⟨_, rfl, hK.out _ _ hHeld (fun hHeld => ?_)⟩
  clear hK K
  refine norm_ (a' := ?_) ?_ ?_
  rotate_left
  · show Act.put _ (some 29) _ = _
    simp only [Act.put, List.setIfInBounds_toArray, List.set_cons_zero, List.set_cons_succ, i64_w, i32_w]
    rfl
  refine pure_ (i := 2) (N := some 30) (v := ?_) (a' := ?_) #[true, true, true, false, false, false, false, false, false, false, false, false, false, false, false, false, false, false, false, false, false, false, false, false, false, false] rfl rfl (any_of HT_.out (by kernel_rfl)) (fun _ _ _ h => h) (Or.inl ⟨by first | rfl | kernel_rfl, ?_⟩) ?_ ?_
  rotate_left
  · intro w'
    go_simp
    with_reducible rfl
  rotate_left
  · simp only [Act.put, List.setIfInBounds_toArray, List.set_cons_zero, List.set_cons_succ, i64_w, i32_w]
    rfl
  refine take_ (i := 3) (N := some 31) (v := ?_) (a' := ?_) #[true, true, true, true, false, false, false, false, false, false, false, false, false, false, false, false, false, false, false, false, false, false, false, false, false, false] rfl rfl (take_ofW HT_.out HW_.out (by kernel_rfl)) (fun _ _ _ h => h) (Or.inl ⟨by first | rfl | kernel_rfl, ?_⟩) hHeld ?_ ?_
  rotate_left
  · intro w' s0
    have z0 := (s0.cell (by exact lB7)).trans x0
    have z1 := (s0.cell (by exact lB7)).trans x1
    have z2 := (s0.cell (by exact lB7)).trans x2
    go_simp
    with_reducible rfl
  rotate_left
  · simp only [Act.put, List.setIfInBounds_toArray, List.set_cons_zero, List.set_cons_succ, i64_w, i32_w]
    rfl
  refine one_ (i := 4) (N := some 32) #[true, true, true, true, true, false, false, false, false, false, false, false, false, false, false, false, false, false, false, false, false, false, false, false, false, false] rfl rfl (one_of HT_.out (by kernel_rfl)) (by decide) (fun K hK => ?_)
  refine goes_ Try.func10 (by kernel_rfl) rfl #[.agg #[.int .i64 s, .int .i64 c, .slice V0 L.length cv0]] (by first | rfl | kernel_rfl) rfl rfl (by first | rfl | kernel_rfl) ?_
  refine (image_May.calls km s c V0 cv0 L true _ (Kd.C_below hCV0 hHeld) hcv0 hkm).mono ?_
  rintro e w8 ⟨rfl, hb8⟩
  have hHeld := hHeld.trans (hb8.mono hHeld.size)
  refine ⟨_, rfl, hK.out _ _ hHeld (fun hHeld => ?_)⟩
  clear hK K
  refine norm_ (a' := ?_) ?_ ?_
  rotate_left
  · show Act.put _ (some 32) _ = _
    simp only [Act.put, List.setIfInBounds_toArray, List.set_cons_zero, List.set_cons_succ, i64_w, i32_w]
    rfl
  refine pure_ (i := 5) (N := some 33) (v := ?_) (a' := ?_) #[true, true, true, true, true, true, false, false, false, false, false, false, false, false, false, false, false, false, false, false, false, false, false, false, false, false] rfl rfl (any_of HT_.out (by kernel_rfl)) (fun _ _ _ h => h) (Or.inl ⟨by first | rfl | kernel_rfl, ?_⟩) ?_ ?_
  rotate_left
  · intro w'
    go_simp
    with_reducible rfl
  rotate_left
  · simp only [Act.put, List.setIfInBounds_toArray, List.set_cons_zero, List.set_cons_succ, i64_w, i32_w]
    rfl
  refine pure_ (i := 6) (N := some 34) (v := ?_) (a' := ?_) #[true, true, true, true, true, true, true, false, false, false, false, false, false, false, false, false, false, false, false, false, false, false, false, false, false, false] rfl rfl (any_of HT_.out (by kernel_rfl)) (fun _ _ _ h => h) (Or.inl ⟨by first | rfl | kernel_rfl, ?_⟩) ?_ ?_
  rotate_left
  · intro w'
    go_simp
    with_reducible rfl
  rotate_left
  · simp only [Act.put, List.setIfInBounds_toArray, List.set_cons_zero, List.set_cons_succ, i64_w, i32_w]
    rfl
  refine pure_ (i := 7) (N := some 35) (v := ?_) (a' := ?_) #[true, true, true, true, true, true, true, true, false, false, false, false, false, false, false, false, false, false, false, false, false, false, false, false, false, false] rfl rfl (any_of HT_.out (by kernel_rfl)) (fun _ _ _ h => h) (Or.inl ⟨by first | rfl | kernel_rfl, ?_⟩) ?_ ?_
  rotate_left
  · intro w'
    go_simp
    with_reducible rfl
  rotate_left
  · simp only [Act.put, List.setIfInBounds_toArray, List.set_cons_zero, List.set_cons_succ, i64_w, i32_w]
    rfl
  refine pure_ (i := 8) (N := some 36) (v := ?_) (a' := ?_) #[true, true, true, true, true, true, true, true, true, false, false, false, false, false, false, false, false, false, false, false, false, false, false, false, false, false] rfl rfl (any_of HT_.out (by kernel_rfl)) (fun _ _ _ h => h) (Or.inl ⟨by first | rfl | kernel_rfl, ?_⟩) ?_ ?_
  rotate_left
  · intro w'
    go_simp
    with_reducible rfl
  rotate_left
  · simp only [Act.put, List.setIfInBounds_toArray, List.set_cons_zero, List.set_cons_succ, i64_w, i32_w]
    rfl
  refine pure_ (i := 9) (N := some 37) (v := ?_) (a' := ?_) #[true, true, true, true, true, true, true, true, true, true, false, false, false, false, false, false, false, false, false, false, false, false, false, false, false, false] rfl rfl (any_of HT_.out (by kernel_rfl)) (fun _ _ _ h => h) (Or.inl ⟨by first | rfl | kernel_rfl, ?_⟩) ?_ ?_
  rotate_left
  · intro w'
    go_simp
    with_reducible rfl
  rotate_left
  · simp only [Act.put, List.setIfInBounds_toArray, List.set_cons_zero, List.set_cons_succ, i64_w, i32_w]
    rfl
  refine pure_ (i := 10) (N := some 38) (v := ?_) (a' := ?_) #[true, true, true, true, true, true, true, true, true, true, true, false, false, false, false, false, false, false, false, false, false, false, false, false, false, false] rfl rfl (any_of HT_.out (by kernel_rfl)) (fun _ _ _ h => h) (Or.inl ⟨by first | rfl | kernel_rfl, ?_⟩) ?_ ?_
  rotate_left
  · intro w'
    go_simp
    with_reducible rfl
  rotate_left
  · simp only [Act.put, List.setIfInBounds_toArray, List.set_cons_zero, List.set_cons_succ, i64_w, i32_w]
    rfl
  refine take_ (i := 11) (N := some 39) (v := ?_) (a' := ?_) #[true, true, true, true, true, true, true, true, true, true, true, true, false, false, false, false, false, false, false, false, false, false, false, false, false, false] rfl rfl (take_ofW HT_.out HW_.out (by kernel_rfl)) (fun _ _ _ h => h) (Or.inl ⟨by first | rfl | kernel_rfl, ?_⟩) hHeld ?_ ?_
  rotate_left
  · intro w' s0
    have zc := Kd.C_string (P := Try.prog) (c := cub) Try.underlying27 Try.underlying5 Try.underlying9 (Kd.C_below hCUb s0)
    go_simp
    with_reducible rfl
  rotate_left
  · simp only [Act.put, List.setIfInBounds_toArray, List.set_cons_zero, List.set_cons_succ, i64_w, i32_w]
    rfl
  refine take_ (i := 12) (N := some 40) (v := ?_) (a' := ?_) #[true, true, true, true, true, true, true, true, true, true, true, true, true, false, false, false, false, false, false, false, false, false, false, false, false, false] rfl rfl (take_ofW HT_.out HW_.out (by kernel_rfl)) (fun _ _ _ h => h) (Or.inl ⟨by first | rfl | kernel_rfl, ?_⟩) hHeld ?_ ?_
  rotate_left
  · intro w' s0
    have z0 := (s0.cell (by exact lB7)).trans x0
    have z1 := (s0.cell (by exact lB7)).trans x1
    have z2 := (s0.cell (by exact lB7)).trans x2
    go_simp
    with_reducible rfl
  rotate_left
  · simp only [Act.put, List.setIfInBounds_toArray, List.set_cons_zero, List.set_cons_succ, i64_w, i32_w]
    rfl
  refine one_ (i := 13) (N := some 41) #[true, true, true, true, true, true, true, true, true, true, true, true, true, true, false, false, false, false, false, false, false, false, false, false, false, false] rfl rfl (one_of HT_.out (by kernel_rfl)) (by decide) (fun K hK => ?_)
  refine goes_ Try.func14 (by kernel_rfl) rfl #[.agg #[.int .i64 s, .int .i64 c, .slice V0 L.length cv0]] (by first | rfl | kernel_rfl) rfl rfl (by first | rfl | kernel_rfl) ?_
  refine (tautochronelaw21_bytes.calls kb s c V0 cv0 L (imB s c L) _ (Kd.C_below hCV0 hHeld) hcv0 hkb).mono ?_
  rintro e w8 ⟨vq, rfl, hRq, hb8⟩
  obtain ⟨Uq, cuq, rfl, hcuq, hCUq⟩ := Kd.R_reads hRq
  clear hRq
  have hHeld := hHeld.trans (hb8.mono hHeld.size)
  refine ⟨_, rfl, hK.out _ _ hHeld (fun hHeld => ?_)⟩
  clear hK K
  refine norm_ (a' := ?_) ?_ ?_
  rotate_left
  · show Act.put _ (some 41) _ = _
    simp only [Act.put, List.setIfInBounds_toArray, List.set_cons_zero, List.set_cons_succ, i64_w, i32_w]
    rfl
  refine one_ (i := 14) (N := some 42) #[true, true, true, true, true, true, true, true, true, true, true, true, true, true, true, false, false, false, false, false, false, false, false, false, false, false] rfl rfl (one_of HT_.out (by kernel_rfl)) (by decide) (fun K hK => ?_)
  refine value_ (w1 := ?_) (v := ?_) (by rfl) rfl ?_ ?_
  rotate_left 2
  · have zc := Kd.C_string (P := Try.prog) (c := cuq) Try.underlying27 Try.underlying5 Try.underlying9 hCUq
    go_simp
    constructor
    · rfl
    · rfl
  refine hK.out _ _ hHeld (fun hHeld => ?_)
  clear hK K
  refine norm_ (a' := ?_) ?_ ?_
  rotate_left
  · show Act.put _ (some 42) _ = _
    simp only [Act.put, List.setIfInBounds_toArray, List.set_cons_zero, List.set_cons_succ, i64_w, i32_w]
    rfl
  refine pure_ (i := 15) (N := some 43) (v := ?_) (a' := ?_) #[true, true, true, true, true, true, true, true, true, true, true, true, true, true, true, true, false, false, false, false, false, false, false, false, false, false] rfl rfl (any_of HT_.out (by kernel_rfl)) (fun _ _ _ h => h) (Or.inl ⟨by first | rfl | kernel_rfl, ?_⟩) ?_ ?_
  rotate_left
  · intro w'
    go_simp
    with_reducible rfl
  rotate_left
  · simp only [Act.put, List.setIfInBounds_toArray, List.set_cons_zero, List.set_cons_succ, i64_w, i32_w]
    rfl
  refine pure_ (i := 16) (N := some 44) (v := ?_) (a' := ?_) #[true, true, true, true, true, true, true, true, true, true, true, true, true, true, true, true, true, false, false, false, false, false, false, false, false, false] rfl rfl (any_of HT_.out (by kernel_rfl)) (fun _ _ _ h => h) (Or.inl ⟨by first | rfl | kernel_rfl, ?_⟩) ?_ ?_
  rotate_left
  · intro w'
    go_simp
    with_reducible rfl
  rotate_left
  · simp only [Act.put, List.setIfInBounds_toArray, List.set_cons_zero, List.set_cons_succ, i64_w, i32_w]
    rfl
  refine pure_ (i := 17) (N := some 45) (v := ?_) (a' := ?_) #[true, true, true, true, true, true, true, true, true, true, true, true, true, true, true, true, true, true, false, false, false, false, false, false, false, false] rfl rfl (any_of HT_.out (by kernel_rfl)) (fun _ _ _ h => h) (Or.inl ⟨by first | rfl | kernel_rfl, ?_⟩) ?_ ?_
  rotate_left
  · intro w'
    go_simp
    with_reducible rfl
  rotate_left
  · simp only [Act.put, List.setIfInBounds_toArray, List.set_cons_zero, List.set_cons_succ, i64_w, i32_w]
    rfl
  refine pure_ (i := 18) (N := some 46) (v := ?_) (a' := ?_) #[true, true, true, true, true, true, true, true, true, true, true, true, true, true, true, true, true, true, true, false, false, false, false, false, false, false] rfl rfl (any_of HT_.out (by kernel_rfl)) (fun _ _ _ h => h) (Or.inl ⟨by first | rfl | kernel_rfl, ?_⟩) ?_ ?_
  rotate_left
  · intro w'
    go_simp
    with_reducible rfl
  rotate_left
  · simp only [Act.put, List.setIfInBounds_toArray, List.set_cons_zero, List.set_cons_succ, i64_w, i32_w]
    rfl
  refine pure_ (i := 19) (N := some 47) (v := ?_) (a' := ?_) #[true, true, true, true, true, true, true, true, true, true, true, true, true, true, true, true, true, true, true, true, false, false, false, false, false, false] rfl rfl (any_of HT_.out (by kernel_rfl)) (fun _ _ _ h => h) (Or.inl ⟨by first | rfl | kernel_rfl, ?_⟩) ?_ ?_
  rotate_left
  · intro w'
    go_simp
    with_reducible rfl
  rotate_left
  · simp only [Act.put, List.setIfInBounds_toArray, List.set_cons_zero, List.set_cons_succ, i64_w, i32_w]
    rfl
  refine pure_ (i := 20) (N := some 48) (v := ?_) (a' := ?_) #[true, true, true, true, true, true, true, true, true, true, true, true, true, true, true, true, true, true, true, true, true, false, false, false, false, false] rfl rfl (any_of HT_.out (by kernel_rfl)) (fun _ _ _ h => h) (Or.inl ⟨by first | rfl | kernel_rfl, ?_⟩) ?_ ?_
  rotate_left
  · intro w'
    go_simp
    with_reducible rfl
  rotate_left
  · simp only [Act.put, List.setIfInBounds_toArray, List.set_cons_zero, List.set_cons_succ, i64_w, i32_w]
    rfl
  refine take_ (i := 21) (N := some 49) (v := ?_) (a' := ?_) #[true, true, true, true, true, true, true, true, true, true, true, true, true, true, true, true, true, true, true, true, true, true, false, false, false, false] rfl rfl (take_ofW HT_.out HW_.out (by kernel_rfl)) (fun _ _ _ h => h) (Or.inl ⟨by first | rfl | kernel_rfl, ?_⟩) hHeld ?_ ?_
  rotate_left
  · intro w' s0
    have z0 := (s0.cell (by exact lB7)).trans x0
    have z1 := (s0.cell (by exact lB7)).trans x1
    have z2 := (s0.cell (by exact lB7)).trans x2
    go_simp
    with_reducible rfl
  rotate_left
  · simp only [Act.put, List.setIfInBounds_toArray, List.set_cons_zero, List.set_cons_succ, i64_w, i32_w]
    rfl
  refine take_ (i := 22) (N := some 50) (v := ?_) (a' := ?_) #[true, true, true, true, true, true, true, true, true, true, true, true, true, true, true, true, true, true, true, true, true, true, true, false, false, false] rfl rfl (take_ofW HT_.out HW_.out (by kernel_rfl)) (fun _ _ _ h => h) (Or.inl ⟨by first | rfl | kernel_rfl, ?_⟩) hHeld ?_ ?_
  rotate_left
  · intro w' s0
    have z0 := (s0.cell (by exact lB10)).trans y0
    have z1 := (s0.cell (by exact lB10)).trans y1
    have z2 := (s0.cell (by exact lB10)).trans y2
    go_simp
    with_reducible rfl
  rotate_left
  · simp only [Act.put, List.setIfInBounds_toArray, List.set_cons_zero, List.set_cons_succ, i64_w, i32_w]
    rfl
  refine one_ (i := 23) (N := some 51) #[true, true, true, true, true, true, true, true, true, true, true, true, true, true, true, true, true, true, true, true, true, true, true, true, false, false] rfl rfl (one_of HT_.out (by kernel_rfl)) (by decide) (fun K hK => ?_)
  refine goes_ Try.func12 (by kernel_rfl) rfl #[.agg #[.int .i64 s, .int .i64 c, .slice V0 L.length cv0], .agg #[.int .i64 s, .int .i64 c, .slice V2 L.length cv2]] (by first | rfl | kernel_rfl) rfl rfl (by first | rfl | kernel_rfl) ?_
  refine (tautochronelaw21_Same.calls ks s c V0 cv0 L s c V2 cv2 L true _ (Kd.C_below hCV0 hHeld) hcv0 (Kd.C_below hCV2 hHeld) hcv2 hks).mono ?_
  rintro e w8 ⟨rfl, hb8⟩
  have hHeld := hHeld.trans (hb8.mono hHeld.size)
  refine ⟨_, rfl, hK.out _ _ hHeld (fun hHeld => ?_)⟩
  clear hK K
  refine norm_ (a' := ?_) ?_ ?_
  rotate_left
  · show Act.put _ (some 51) _ = _
    simp only [Act.put, List.setIfInBounds_toArray, List.set_cons_zero, List.set_cons_succ, i64_w, i32_w]
    rfl
  refine pure_ (i := 24) (N := some 52) (v := ?_) (a' := ?_) #[true, true, true, true, true, true, true, true, true, true, true, true, true, true, true, true, true, true, true, true, true, true, true, true, true, false] rfl rfl (any_of HT_.out (by kernel_rfl)) (fun _ _ _ h => h) (Or.inl ⟨by first | rfl | kernel_rfl, ?_⟩) ?_ ?_
  rotate_left
  · intro w'
    go_simp
    with_reducible rfl
  rotate_left
  · simp only [Act.put, List.setIfInBounds_toArray, List.set_cons_zero, List.set_cons_succ, i64_w, i32_w]
    rfl
  refine pure_ (i := 25) (N := some 6) (v := ?_) (a' := ?_) #[true, true, true, true, true, true, true, true, true, true, true, true, true, true, true, true, true, true, true, true, true, true, true, true, true, true] rfl rfl (any_of HT_.out (by kernel_rfl)) (fun _ _ _ h => h) (Or.inl ⟨by first | rfl | kernel_rfl, ?_⟩) ?_ ?_
  rotate_left
  · intro w'
    go_simp
    with_reducible rfl
  rotate_left
  · simp only [Act.put, List.setIfInBounds_toArray, List.set_cons_zero, List.set_cons_succ, i64_w, i32_w]
    rfl
  refine done_ (done_of HT_.out (by kernel_rfl)) ?_
  clear HT_ HW_
  have HB8 := HB7.trans (hHeld.mono HB7.size)
  go_wp2
  go_ret
  exact ⟨rfl, HB8⟩
end Go.Proofs.Yteajbeajkplplaa.Pure
