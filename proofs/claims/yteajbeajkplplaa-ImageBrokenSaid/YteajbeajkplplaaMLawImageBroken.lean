/-
The law ImageBroken walked by hand, by the printed contracts of the functions that it calls: bytes that are read are those of what is read of them, others are none's. Conditions: as each theorem states them.
-/
import Derived.Test.YteajbeajkplplaaMImDecode
import Derived.Test.YteajbeajkplplaaMImMake
import Derived.Test.YteajbeajkplplaaMImMay
import Derived.Test.YteajbeajkplplaaPureImC
import Derived.Test.YteajbeajkplplaaWSupp
import Derived.Test.YteajbeajkplplaaRows
import Derived.Test.YteajbeajkplplaaOpens
import Derived.WalkKit
import Derived.ProofKit
import Derived.OpenShut
import Derived.ShutString
import Derived.ChangeOld
import Derived.Below
import Derived.SizedLaws
import Derived.Lib.SmallJoins
set_option linter.unusedSimpArgs false
set_option linter.unusedVariables false
namespace Go.Proofs.Yteajbeajkplplaa.Pure
open Go.RowKit Go.Proofs.YteajbeajkplplaaW.PrintWords Go.Proofs.YteajbeajkplplaaW.PrintLast Go.Proofs.YteajbeajkplplaaW.PrintMore Go.Proofs.Yteajbeajkplplaa.Kit
open Go.Proofs.Yteajbeajkplplaa.PImageBytes
attribute [local go_sem] max2_int min2_int max_two min_two max_three min_three max_four min_four   -- for this text's walks alone
theorem awake_some5 : ∃ k, tautochronelaw21_awake.f k = some true := Ev.rounds iawake_ev
theorem wf_bounds_u16 {x : Int} (h : (Lit.int .u16 x).wf = true) : 0 ≤ x ∧ x ≤ 65535 := by
 simpa [Lit.wf, IntKind.min, IntKind.max, IntKind.signed, IntKind.bits] using h
theorem ths_length (L : List (List S46)) (h : ∀ t ∈ L, t.length ≤ 4096) : (L.flatMap thB).length ≤ L.length * 65540 := by
 induction L with
 | nil => simp
 | cons t L ih =>
  have h1 := ih (fun u hu => h u (List.mem_cons_of_mem _ hu))
  have h2 := h t (by simp)
  have h3 := flat_lenX t
  rw [List.flatMap_cons, List.length_append, thB, List.length_append, h3, List.length_cons]
  have h4 : (b4 (t.length : Int)).length = 4 := rfl
  omega
theorem im_len2 {s c : Int} {L : List (List S46)} (h : imS s c L) : (imB s c L).length ≤ 2000000 := by
 have h1 := ths_length L (fun t ht => (h.2.2.2.2 t ht).1.2.1)
 have h2 := h.2.2.2.1
 unfold imB
 simp only [List.length_append]
 have h3 : ∀ n : Int, (b4 n).length = 4 := fun _ => rfl
 simp only [h3]
 omega
theorem ok_u64B {L : List (List S46)} (h : ∀ t ∈ L, ∀ x ∈ t, Ok46 x) : ∀ t ∈ L, ∀ x ∈ t, U64 x := fun t ht x hx => ⟨(h t ht x hx).v0, (h t ht x hx).v1⟩
theorem no_cut {s c : Int} {L : List (List S46)} (h : imS s c L) (hu : ∀ t ∈ L, ∀ x ∈ t, U64 x) (k : Nat) (hk : k < (imB s c L).length) : NoIm ((imB s c L).take k) := by
 intro s' c' L' h' hu' e
 have e2 : imB s' c' L' ++ (imB s c L).drop k = imB s c L ++ [] := by rw [e, List.take_append_drop, List.append_nil]
 obtain ⟨_, _, _, hd⟩ := imB_inj (r := (imB s c L).drop k) (q := []) h' h hu' hu e2
 have := congrArg List.length hd
 rw [List.length_drop] at this
 simp at this
 omega
theorem no_more {s c : Int} {L : List (List S46)} (h : imS s c L) (hu : ∀ t ∈ L, ∀ x ∈ t, U64 x) (x : Int) : NoIm (imB s c L ++ [x]) := by
 intro s' c' L' h' hu' e
 have e2 : imB s' c' L' ++ [] = imB s c L ++ [x] := by rw [e, List.append_nil]
 obtain ⟨_, _, _, hd⟩ := imB_inj (r := []) (q := [x]) h' h hu' hu e2
 simp at hd
theorem im_pos (s c : Int) (L : List (List S46)) : 0 < (imB s c L).length := by
 unfold imB
 simp only [List.length_append]
 have h3 : ∀ n : Int, (b4 n).length = 4 := fun _ => rfl
 simp only [h3]
 omega
/-- A row of bytes that is read in any later world. -/
def Row8 (w : World) (v : Value) (b : List Int) : Prop := ∃ A c, v = .slice A b.length c ∧ b.length ≤ c ∧ Kd.C (Kd.int .u8) w A b.length b
theorem Row8.below {w w1 : World} {v : Value} {b : List Int} (h : Row8 w v b) (hb : Below w.heap.size w w1) : Row8 w1 v b := by
 obtain ⟨A, c, e, hc, hC⟩ := h
 exact ⟨A, c, e, hc, Kd.C_below hC hb⟩
def imbr.T7 : Bool × List (List Nat × List Nat) := (true, [([], []), ([], []), ([], []), ([1, 2], [1, 2]), ([], []), ([4], [4]), ([], []), ([6], [6]), ([5, 7, 5], [5, 7]), ([], []), ([], []), ([10], [10]), ([], []), ([12], [12]), ([11, 13], [11, 13]), ([9, 14], [9, 14]), ([0, 3, 8, 15], [0, 3, 8, 15]), ([16], [16]), ([], [])])
def imbr.B7 : List Nat := [0, 0, 0, 6, 0, 16, 0, 64, 240, 0, 0, 1024, 0, 4096, 15360, 32256, 65535, 131071, 0]
theorem imbr.tab7 : rtab .any (opsOf Try.f6 7) = imbr.T7 := by kernel_rfl
theorem imbr.bits7 : waitsOk imbr.T7.2 imbr.B7 = true := by kernel_rfl
def imbr.T11 : Bool × List (List Nat × List Nat) := (true, [([], []), ([0], [0]), ([1], [1]), ([2, 1, 1], [1, 2]), ([3, 1], [1, 3]), ([4, 3, 1], [1, 4]), ([5], [5]), ([6, 5, 5], [5, 6]), ([7, 5], [5, 7]), ([5], [5]), ([9, 5], [5, 9]), ([8, 10, 5], [5, 8, 10]), ([5, 11, 1], [1, 5, 11]), ([1, 12], [1, 12]), ([13, 7], [13]), ([14], [14]), ([15, 14], [14, 15]), ([16, 14, 14], [14, 16]), ([17], [17]), ([18, 17], [17, 18]), ([19, 17], [17, 19]), ([20, 17, 17], [17, 20]), ([21], [21]), ([22, 21], [21, 22]), ([23, 21], [21, 23]), ([21, 24, 17], [17, 21, 24]), ([25, 21, 17], [17, 25]), ([26], [26]), ([27, 26], [26, 27]), ([28, 26], [26, 28]), ([29, 26], [26, 29]), ([26, 30, 17], [17, 26, 30]), ([17, 31, 14], [14, 17, 31]), ([14, 32], [14, 32])])
def imbr.B11 : List Nat := [0, 1, 3, 7, 15, 31, 63, 127, 255, 63, 575, 2047, 4095, 8191, 16383, 32767, 65535, 131071, 262143, 524287, 1048575, 2097151, 4194303, 8388607, 16777215, 33554431, 67108863, 134217727, 268435455, 536870911, 1073741823, 2147483647, 4294967295, 8589934591]
theorem imbr.tab11 : rtab .any (opsOf Try.f6 11) = imbr.T11 := by kernel_rfl
theorem imbr.bits11 : waitsOk imbr.T11.2 imbr.B11 = true := by kernel_rfl
/-- Which operations are done, by a mask. -/
def bl (n m : Nat) : Array Bool := ((List.range n).map fun i => m.testBit i).toArray
theorem one8 {w : World} {B : Nat} {x : Int} (h : w.heap[B]? = some (.cells #[.int .u8 x] 5 (0, 0))) : Kd.C (Kd.int .u8) w (some ⟨B, 0, none⟩) [x].length [x] :=
 ⟨rfl, by simp, fun _ => ⟨_, rfl, fun j p hj => ⟨[.int .u8 p], rfl, rfl, fun i u hi => by
  cases j with
  | succ j => simp at hj
  | zero =>
   obtain rfl : x = p := by simpa using hj
   cases i with
   | succ i => simp at hi
   | zero =>
    have e := blk_cell h 0
    rw [show (0 * (Kd.int IntKind.u8).sz + 0) = 0 from rfl, Addr.add_lit, Nat.zero_add]
    rw [e]
    exact hi⟩⟩⟩
set_option maxHeartbeats 40000000 in
set_option maxRecDepth 100000 in
theorem imbroken.calls (A0 : Option Addr) (c0 : Nat) (R : List (List S46)) (sh ce at_ wi cu : Int) (w : World) (hr0 : Kd.C (Kd.slice 46 k46) w A0 R.length R) (hc0 : R.length ≤ c0)
  (hl0 : R.length ≤ 9223372036854775806) (hs : 0 ≤ sh ∧ sh ≤ 255) (hce : 0 ≤ ce ∧ ce ≤ 255) (hat : 0 ≤ at_ ∧ at_ ≤ 65535) (hwi : 0 ≤ wi ∧ wi ≤ 255) (hcu : 0 ≤ cu ∧ cu ≤ 255) (hu0 : ∀ t ∈ R, ∀ x ∈ t, U64 x) :
  Calls Try.prog 6 #[.slice A0 R.length c0, .int .u8 sh, .int .u8 ce, .int .u16 at_, .int .u8 wi, .int .u8 cu] w fun e w' => e = .returned (.bool true) ∧ Below w.heap.size w w' := by
 obtain ⟨ka, hka⟩ := awake_some5
 have TM := fun wx (hb : Below w.heap.size w wx) => mkI.calls A0 c0 R sh ce wx (Kd.C_below hr0 hb) hc0 hl0 hs hce hu0
 obtain ⟨hm, hx⟩ := mkI_ok R sh ce hs hce hu0
 generalize (R.take 16).map (thM (ce + 1)) = L at TM hm hx
 generalize sh % (ce + 2) = s at TM hm
 generalize ce + 1 = c at TM hm
 obtain ⟨kb, hkb⟩ : ∃ k, tautochronelaw21_bytes.f k s c L = some (imB s c L) := Ev.rounds (lbytes_ev s c L hm)
 have TB := fun wx V cv h h2 => tautochronelaw21_bytes.calls kb s c V cv L (imB s c L) wx h h2 hkb
 have hGb := imB_byte s c L
 have hGl := im_len2 hm
 have hG0 := im_pos s c L
 have hcutN := no_cut hm (ok_u64B hx)
 have hmoreN := no_more hm (ok_u64B hx) wi
 generalize imB s c L = G at TB hGb hGl hG0 hcutN hmoreN
 clear hkb
 have hGn : ¬ G = [] := fun e => by rw [e] at hG0; simp at hG0
 have hGi : (0 : Int) < (G.length : Int) := by omega
 have hb0 : ((G.length : Int) == 0) = false := by simp; omega
 have wat : wrap64 at_ = at_ := wrap_in (by omega) (by omega)
 have wcu : wrap64 cu = cu := wrap_in (by omega) (by omega)
 obtain ⟨k, hk, hki0, hkil⟩ : ∃ k : Int, Int.tmod at_ (G.length : Int) = k ∧ 0 ≤ k ∧ k < (G.length : Int) := ⟨_, rfl, Int.tmod_nonneg _ hat.1, Int.tmod_lt_of_pos _ hGi⟩
 obtain ⟨m, hm2, hmi0, hmil⟩ : ∃ m : Int, Int.tmod cu (G.length : Int) = m ∧ 0 ≤ m ∧ m < (G.length : Int) := ⟨_, rfl, Int.tmod_nonneg _ hcu.1, Int.tmod_lt_of_pos _ hGi⟩
 have hcutk := hcutN k.toNat (by omega)
 clear hcutN
 replace hm := Aside0.mk hm
 replace hx := Aside0.mk hx
 replace hu0 := Aside0.mk hu0
 replace TM := Aside0.mk TM
 replace TB := Aside0.mk TB
 replace hGb := Aside0.mk hGb
 replace hcutk := Aside0.mk hcutk
 replace hmoreN := Aside0.mk hmoreN
 go_enter Try.func6, Try.ntmps6
 go_upto_region 4 with (first
  | (go_at_call 7; refine (tautochronelaw21_awake.calls ka true _ hka).mono ?_; rintro e w1 ⟨rfl, hb1⟩)
  | (go_at_call 8; refine (TM.out w1 hb1).mono ?_; rintro e w2 ⟨v0, rfl, hS0, hb2⟩; have HB2 := hb1.trans (hb2.mono hb1.size); obtain ⟨V0, cv0, rfl, hcv0, hCV0⟩ := Kd.S_reads hS0; clear hS0 hb1 hb2)
  | (go_at_call 14; refine (TB.out w2 V0 cv0 hCV0 hcv0).mono ?_; rintro e w3 ⟨vg, rfl, hRg, hb3⟩; have HB3 := HB2.trans (hb3.mono HB2.size); obtain ⟨Ag, cg, rfl, hcg, hCG⟩ := Kd.R_reads hRg; clear hRg hb3 hCV0 HB2)
  | go_in)
 go_upto_region 5 with go_in
 clear wat hk
 go_upto_region 6 with (first
  | (at_builtin; go_loud (refine Kd.R_append_rows (Kd.int .u8) (w0 := w3) w3.heap.size rfl (.const (.slice none 0 0)) (.tmp 36) 27 5 (.int .u8 0) 1 rfl Try.underlying27 info5c rfl (by decide) (by omega) (.slice none 0 0) ([] : List Int) G Ag _ cg (fun _ => True) (fun _ => False) rfl rfl (Kd.R_nil _ _ _ _ _) hCG (fun _ _ h => h) (fun _ h => h.elim) (fun _ _ => trivial) (Below.refl _ _) (Nat.le_refl _) (by simp; omega) ?_; intro v5 w5 hR5 HB5 hg5 hat5; rw [List.nil_append] at hR5))
  | go_in)
 obtain ⟨gt, ct, rfl, hgb, _, _⟩ := Kd.R_form hR5 hG0
 obtain ⟨xt, ft⟩ := Kd.R_celln (0 : Int) hR5 k hki0 hkil
 have hR6 := Kd.R_putn hR5 k wi
 have hb6 : Below w3.heap.size w3 (w5.setCell ⟨gt, k.toNat, none⟩ (.int .u8 wi)) := below_set HB5 hgb
 go_upto_region 7 with go_in
 clear xt ft hg5 hat5 HB5 hR5
 generalize w5.setCell ⟨gt, k.toNat, none⟩ (.int .u8 wi) = w6 at hR6 hb6 ⊢
 have HB6 := HB3.trans (hb6.mono HB3.size)
 have hCG := Kd.C_below hCG hb6
 have hrow1 : Row8 w6 (.slice (some ⟨gt, 0, none⟩) G.length ct) (G.set k.toNat wi) := by
  obtain ⟨h1, h2, h3⟩ := Kd.R_reads' hR6
  exact ⟨_, ct, by rw [List.length_set], by rw [List.length_set]; exact h2, h3⟩
 clear hR6 hb6 HB3
 have hGbt : ∀ x ∈ G.set k.toNat wi, Byte x := fun x hx => by
  rcases List.mem_or_eq_of_mem_set hx with hx | rfl
  ·
   exact hGb.out x hx
  ·
   exact ⟨hwi.1, by omega⟩
 replace hGbt := Aside0.mk hGbt
 obtain ⟨i020, hi020, _, hsz20, _⟩ := info_parts info5c
 have hslk := cut_to (P := Try.prog) 27 5 .i64 Try.underlying27 hi020 Ag G.length cg k hki0 (by omega) hcg
 have hslm := cut_from (P := Try.prog) 27 5 .i64 Try.underlying27 hi020 1 hsz20 Ag G.length cg m hmi0 (by omega)
 have hCk : Row8 w6 (.slice Ag k.toNat cg) (G.take k.toNat) := by
  have h := Kd.C_take (m := k.toNat) hCG (by omega)
  exact ⟨Ag, cg, by rw [List.length_take, Nat.min_eq_left (by omega)], by rw [List.length_take]; omega, h⟩
 obtain ⟨Am, hAm⟩ : ∃ A, A = (if cg = m.toNat then Ag else Ag.map (·.add (m.toNat * 1))) := ⟨_, rfl⟩
 rw [← hAm] at hslm
 have hCm : Row8 w6 (.slice Am (G.length - m.toNat) (cg - m.toNat)) (G.drop m.toNat) := by
  have h := Kd.C_drop (m := m.toNat) hCG (by omega) hcg
  exact ⟨Am, cg - m.toNat, by rw [List.length_drop], by rw [List.length_drop]; omega, by rw [hAm]; exact h⟩
 clear hsz20 hi020 hAm
 obtain ⟨Gw, hGwe⟩ : ∃ l, l = G ++ [wi] := ⟨_, rfl⟩
 rw [← hGwe] at hmoreN
 replace hGwe := Aside0.mk hGwe
 refine start_ (n := 19) (S := fun w' => Below w6.heap.size w6 w') (ds := []) #[false, false, false, false, false, false, false, false, false, false, false, false, false, false, false, false, false, false, false] (by kernel_rfl) rfl rfl (below_drew (Below.refl _ _)) (fun hHeld => ?_); refine with_tabW imbr.tab7 imbr.bits7 (fun HT_ HW_ => ?_)
 refine pure_ (i := 0) (N := some 42) (v := ?_) (a' := ?_) (bl 19 1) rfl rfl (any_of HT_.out (by kernel_rfl)) (fun _ _ _ h => h) (Or.inl ⟨by first | rfl | kernel_rfl, ?_⟩) ?_ ?_
 rotate_left
 ·
  intro w'
  go_simp
  with_reducible rfl
 rotate_left
 ·
  simp only [Act.put, List.setIfInBounds_toArray, List.set_cons_zero, List.set_cons_succ, i64_w, i32_w]
  rfl
 refine pure_ (i := 1) (N := some 43) (v := ?_) (a' := ?_) (bl 19 3) rfl rfl (any_of HT_.out (by kernel_rfl)) (fun _ _ _ h => h) (Or.inl ⟨by first | rfl | kernel_rfl, ?_⟩) ?_ ?_
 rotate_left
 ·
  intro w'
  go_simp
  with_reducible rfl
 rotate_left
 ·
  simp only [Act.put, List.setIfInBounds_toArray, List.set_cons_zero, List.set_cons_succ, i64_w, i32_w]
  rfl
 refine pure_ (i := 2) (N := some 44) (v := ?_) (a' := ?_) (bl 19 7) rfl rfl (any_of HT_.out (by kernel_rfl)) (fun _ _ _ h => h) (Or.inl ⟨by first | rfl | kernel_rfl, ?_⟩) ?_ ?_
 rotate_left
 ·
  intro w'
  go_simp
  with_reducible rfl
 rotate_left
 ·
  simp only [Act.put, List.setIfInBounds_toArray, List.set_cons_zero, List.set_cons_succ, i64_w, i32_w]
  rfl
 refine pure_ (i := 3) (N := some 45) (v := ?_) (a' := ?_) (bl 19 15) rfl rfl (any_of HT_.out (by kernel_rfl)) (fun _ _ _ h => h) (Or.inl ⟨by first | rfl | kernel_rfl, ?_⟩) ?_ ?_
 rotate_left
 ·
  intro w'
  have zc := hslk
  go_simp
  with_reducible rfl
 rotate_left
 ·
  simp only [Act.put, List.setIfInBounds_toArray, List.set_cons_zero, List.set_cons_succ, i64_w, i32_w]
  rfl
 refine pure_ (i := 4) (N := some 46) (v := ?_) (a' := ?_) (bl 19 31) rfl rfl (any_of HT_.out (by kernel_rfl)) (fun _ _ _ h => h) (Or.inl ⟨by first | rfl | kernel_rfl, ?_⟩) ?_ ?_
 rotate_left
 ·
  intro w'
  go_simp
  with_reducible rfl
 rotate_left
 ·
  simp only [Act.put, List.setIfInBounds_toArray, List.set_cons_zero, List.set_cons_succ, i64_w, i32_w]
  rfl
 refine pure_ (i := 6) (N := some 48) (v := ?_) (a' := ?_) (bl 19 95) rfl rfl (any_of HT_.out (by kernel_rfl)) (fun _ _ _ h => h) (Or.inl ⟨by first | rfl | kernel_rfl, ?_⟩) ?_ ?_
 rotate_left
 ·
  intro w'
  go_simp
  with_reducible rfl
 rotate_left
 ·
  simp only [Act.put, List.setIfInBounds_toArray, List.set_cons_zero, List.set_cons_succ, i64_w, i32_w]
  rfl
 refine pure_ (i := 9) (N := some 51) (v := ?_) (a' := ?_) (bl 19 607) rfl rfl (any_of HT_.out (by kernel_rfl)) (fun _ _ _ h => h) (Or.inl ⟨by first | rfl | kernel_rfl, ?_⟩) ?_ ?_
 rotate_left
 ·
  intro w'
  go_simp
  with_reducible rfl
 rotate_left
 ·
  simp only [Act.put, List.setIfInBounds_toArray, List.set_cons_zero, List.set_cons_succ, i64_w, i32_w]
  rfl
 refine pure_ (i := 10) (N := some 52) (v := ?_) (a' := ?_) (bl 19 1631) rfl rfl (any_of HT_.out (by kernel_rfl)) (fun _ _ _ h => h) (Or.inl ⟨by first | rfl | kernel_rfl, ?_⟩) ?_ ?_
 rotate_left
 ·
  intro w'
  go_simp
  with_reducible rfl
 rotate_left
 ·
  simp only [Act.put, List.setIfInBounds_toArray, List.set_cons_zero, List.set_cons_succ, i64_w, i32_w]
  rfl
 refine pure_ (i := 11) (N := some 53) (v := ?_) (a' := ?_) (bl 19 3679) rfl rfl (any_of HT_.out (by kernel_rfl)) (fun _ _ _ h => h) (Or.inl ⟨by first | rfl | kernel_rfl, ?_⟩) ?_ ?_
 rotate_left
 ·
  intro w'
  have zc := wcu
  go_simp
  with_reducible rfl
 rotate_left
 ·
  simp only [Act.put, List.setIfInBounds_toArray, List.set_cons_zero, List.set_cons_succ, i64_w, i32_w]
  rfl
 refine pure_ (i := 12) (N := some 54) (v := ?_) (a' := ?_) (bl 19 7775) rfl rfl (any_of HT_.out (by kernel_rfl)) (fun _ _ _ h => h) (Or.inl ⟨by first | rfl | kernel_rfl, ?_⟩) ?_ ?_
 rotate_left
 ·
  intro w'
  go_simp
  with_reducible rfl
 rotate_left
 ·
  simp only [Act.put, List.setIfInBounds_toArray, List.set_cons_zero, List.set_cons_succ, i64_w, i32_w]
  rfl
 refine pure_ (i := 13) (N := some 55) (v := ?_) (a' := ?_) (bl 19 15967) rfl rfl (any_of HT_.out (by kernel_rfl)) (fun _ _ _ h => h) (Or.inl ⟨by first | rfl | kernel_rfl, ?_⟩) ?_ ?_
 rotate_left
 ·
  intro w'
  go_simp
  with_reducible rfl
 rotate_left
 ·
  simp only [Act.put, List.setIfInBounds_toArray, List.set_cons_zero, List.set_cons_succ, i64_w, i32_w]
  rfl
 refine pure_ (i := 14) (N := some 56) (v := ?_) (a' := ?_) (bl 19 32351) rfl rfl (any_of HT_.out (by kernel_rfl)) (fun _ _ _ h => h) (Or.inl ⟨by first | rfl | kernel_rfl, ?_⟩) ?_ ?_
 rotate_left
 ·
  intro w'
  have zc := hm2
  have zn := hGn
  go_simp
  with_reducible rfl
 rotate_left
 ·
  simp only [Act.put, List.setIfInBounds_toArray, List.set_cons_zero, List.set_cons_succ, i64_w, i32_w]
  rfl
 refine pure_ (i := 15) (N := some 57) (v := ?_) (a' := ?_) (bl 19 65119) rfl rfl (any_of HT_.out (by kernel_rfl)) (fun _ _ _ h => h) (Or.inl ⟨by first | rfl | kernel_rfl, ?_⟩) ?_ ?_
 rotate_left
 ·
  intro w'
  have zc := hslm
  go_simp
  with_reducible rfl
 rotate_left
 ·
  simp only [Act.put, List.setIfInBounds_toArray, List.set_cons_zero, List.set_cons_succ, i64_w, i32_w]
  rfl
 refine pure_ (i := 18) (N := some 60) (v := ?_) (a' := ?_) (bl 19 327263) rfl rfl (any_of HT_.out (by kernel_rfl)) (fun _ _ _ h => h) (Or.inl ⟨by first | rfl | kernel_rfl, ?_⟩) ?_ ?_
 rotate_left
 ·
  intro w'
  go_simp
  with_reducible rfl
 rotate_left
 ·
  simp only [Act.put, List.setIfInBounds_toArray, List.set_cons_zero, List.set_cons_succ, i64_w, i32_w]
  rfl
 refine two_ (i := 5) (j := 7) (Ni := some 47) (Nj := some 49) (bl 19 327295) (bl 19 327391) rfl rfl rfl rfl (two_of HT_.out (by kernel_rfl)) (by decide) (by decide) (fun K hK => ?_) (fun K hK => ?_)
 ·
  refine Kd.R_append_rows_step (Kd.int .u8) (w0 := w6) w6.heap.size (by first | rfl | kernel_rfl) (.const (.slice none 0 0)) (.tmp 46) 27 5 (.int .u8 0) 1 rfl Try.underlying27 info5c rfl (by decide) (by omega) (.slice none 0 0) ([] : List Int) G Ag _ cg (fun _ => True) (fun _ => False) rfl (by first | rfl | (go_simp; done) | (go_simp; rfl)) (Kd.R_nil _ _ _ _ _) (Kd.C_below hCG hHeld) (fun _ _ h => h) (fun _ h => h.elim) (fun _ _ => trivial) hHeld hHeld.size (by simp; omega) ?_
  intro v47 w47 hR47 HB47 hg47 hat47
  rw [List.nil_append] at hR47
  have hb47 := (Below.refl _ _).grown hg47 (Nat.le_refl _) (fun _ hk => by simp [Value.ownBlock] at hk)
  have hHeld := hHeld.trans (hb47.mono hHeld.size)
  clear HB47 hg47 hat47
  refine hK.out _ _ hHeld (fun hHeld => ?_)
  clear hK K
  refine norm_ (a' := ?_) ?_ ?_
  rotate_left
  ·
   show Act.put _ (some 47) _ = _
   simp only [Act.put, List.setIfInBounds_toArray, List.set_cons_zero, List.set_cons_succ, i64_w, i32_w]
   rfl
  refine one_ (i := 7) (N := some 49) (bl 19 327423) rfl rfl (one_of HT_.out (by kernel_rfl)) (by decide) (fun K hK => ?_)
  have e49 := heap_alloc_new w47 (Obj.cells #[.int .u8 wi] 5 (0, 0))
  have hb49 : Below w47.heap.size w47 (w47.alloc (Obj.cells #[.int .u8 wi] 5 (0, 0))) := below_alloc (Below.refl _ _) _
  refine value_ (v := .slice (some ⟨w47.heap.size, 0, none⟩) 1 1) (w1 := w47.alloc (Obj.cells #[.int .u8 wi] 5 (0, 0))) (by first | rfl | kernel_rfl) rfl ?_ ?_
  ·
   go_simp
  have hHeld := hHeld.trans (hb49.mono hHeld.size)
  have hR47 := Kd.R_below hR47 hb49
  generalize w47.heap.size = B49 at e49 ⊢
  generalize w47.alloc (Obj.cells #[.int .u8 wi] 5 (0, 0)) = w49 at e49 hR47 hHeld hK ⊢
  refine hK.out _ _ hHeld (fun hHeld => ?_)
  clear hK K
  refine norm_ (a' := ?_) ?_ ?_
  rotate_left
  ·
   show Act.put _ (some 49) _ = _
   simp only [Act.put, List.setIfInBounds_toArray, List.set_cons_zero, List.set_cons_succ, i64_w, i32_w]
   rfl
  refine one_ (i := 8) (N := some 50) (bl 19 327679) rfl rfl (one_of HT_.out (by kernel_rfl)) (by decide) (fun K hK => ?_)
  have hC49 : Kd.C (Kd.int .u8) _ (some ⟨B49, 0, none⟩) [wi].length [wi] := one8 e49
  refine Kd.R_append_rows_step (Kd.int .u8) (w0 := w6) w6.heap.size (by first | rfl | kernel_rfl) (.tmp 47) (.tmp 49) 27 5 (.int .u8 0) 1 rfl Try.underlying27 info5c rfl (by decide) (by omega) v47 G [wi] (some ⟨B49, 0, none⟩) _ 1 (fun _ => True) (fun _ => False) rfl (by first | rfl | (go_simp; done) | (go_simp; rfl)) hR47 hC49 (fun _ _ h => h) (fun _ h => h.elim) (fun _ _ => trivial) hHeld hHeld.size (by simp; omega) ?_
  intro v50 w50 hR50 HB50 hg50 hat50
  rw [← hGwe.out] at hR50
  have hb50 : Below w6.heap.size w6 w50 := by
   have := hg50
   exact hHeld.grown hg50 hHeld.size (fun k_ hk => Kd.R_base hR47 k_ hk)
  have hHeld := hb50
  refine hK.out _ _ hHeld (fun hHeld => ?_)
  clear hK K
  refine norm_ (a' := ?_) ?_ ?_
  rotate_left
  ·
   show Act.put _ (some 50) _ = _
   simp only [Act.put, List.setIfInBounds_toArray, List.set_cons_zero, List.set_cons_succ, i64_w, i32_w]
   rfl
  refine one_ (i := 16) (N := some 58) (bl 19 393215) rfl rfl (one_of HT_.out (by kernel_rfl)) (by decide) (fun K hK => ?_)
  obtain ⟨A50, c50, rfl, hc50, hC50⟩ := Kd.R_reads hR50
  have e58 := heap_alloc_new w50 (Obj.cells #[.slice (some ⟨gt, 0, none⟩) G.length ct, .slice Ag k.toNat cg, .slice A50 Gw.length c50, .slice Am (G.length - m.toNat) (cg - m.toNat)] 27 (0, 0))
  have hb58 : Below w50.heap.size w50 (w50.alloc (Obj.cells #[.slice (some ⟨gt, 0, none⟩) G.length ct, .slice Ag k.toNat cg, .slice A50 Gw.length c50, .slice Am (G.length - m.toNat) (cg - m.toNat)] 27 (0, 0))) := below_alloc (Below.refl _ _) _
  refine value_ (v := .slice (some ⟨w50.heap.size, 0, none⟩) 4 4) (w1 := w50.alloc (Obj.cells #[.slice (some ⟨gt, 0, none⟩) G.length ct, .slice Ag k.toNat cg, .slice A50 Gw.length c50, .slice Am (G.length - m.toNat) (cg - m.toNat)] 27 (0, 0))) (by first | rfl | kernel_rfl) rfl ?_ ?_
  ·
   go_simp
  have hHeld := hHeld.trans (hb58.mono hHeld.size)
  have hrow3 : Row8 w50 (.slice A50 Gw.length c50) Gw := ⟨A50, c50, rfl, hc50, hC50⟩
  have hrow3 := hrow3.below hb58
  clear hC50 hc50
  generalize w50.heap.size = B58 at e58 ⊢
  generalize w50.alloc (Obj.cells #[.slice (some ⟨gt, 0, none⟩) G.length ct, .slice Ag k.toNat cg, .slice A50 Gw.length c50, .slice Am (G.length - m.toNat) (cg - m.toNat)] 27 (0, 0)) = w58 at e58 hrow3 hHeld hK ⊢
  refine hK.out _ _ hHeld (fun hHeld => ?_)
  clear hK K
  refine norm_ (a' := ?_) ?_ ?_
  rotate_left
  ·
   show Act.put _ (some 58) _ = _
   simp only [Act.put, List.setIfInBounds_toArray, List.set_cons_zero, List.set_cons_succ, i64_w, i32_w]
   rfl
  refine pure_ (i := 17) (N := some 59) (v := ?_) (a' := ?_) (bl 19 524287) rfl rfl (any_of HT_.out (by kernel_rfl)) (fun _ _ _ h => h) (Or.inl ⟨by first | rfl | kernel_rfl, ?_⟩) ?_ ?_
  rotate_left
  ·
   intro w'
   go_simp
   with_reducible rfl
  rotate_left
  ·
   simp only [Act.put, List.setIfInBounds_toArray, List.set_cons_zero, List.set_cons_succ, i64_w, i32_w]
   rfl
  refine done_ (done_of HT_.out (by kernel_rfl)) ?_
  clear HT_ HW_
  have HB58 := HB6.trans (hHeld.mono HB6.size)
  have hrow1 := hrow1.below hHeld
  have hCk := hCk.below hHeld
  have hCm := hCm.below hHeld
  have hCG := Kd.C_below hCG hHeld
  have hGw : ∀ x ∈ Gw, Byte x := fun x hx => by
   rw [hGwe.out] at hx
   rcases List.mem_append.mp hx with hx | hx
   ·
    exact hGb.out x hx
   ·
    obtain rfl := List.mem_singleton.mp hx
    exact ⟨hwi.1, by omega⟩
  have hrows : ∀ i : Nat, i < 4 → ∃ v b, w58.cell? ⟨B58, i, none⟩ = some v ∧ Row8 w58 v b ∧ (∀ x ∈ b, Byte x) ∧ b.length ≤ 35184372088816 := by
   intro i hi
   have h4 : i = 0 ∨ i = 1 ∨ i = 2 ∨ i = 3 := by omega
   rcases h4 with rfl | rfl | rfl | rfl
   ·
    exact ⟨_, _, (blk_cell e58 0).trans rfl, hrow1, hGbt.out, by rw [List.length_set]; omega⟩
   ·
    exact ⟨_, _, (blk_cell e58 1).trans rfl, hCk, fun x hx => hGb.out x (List.mem_of_mem_take hx), by rw [List.length_take]; omega⟩
   ·
    exact ⟨_, _, (blk_cell e58 2).trans rfl, hrow3, hGw, by rw [hGwe.out, List.length_append]; simp; omega⟩
   ·
    exact ⟨_, _, (blk_cell e58 3).trans rfl, hCm, fun x hx => hGb.out x (List.mem_of_mem_drop hx), by rw [List.length_drop]; omega⟩
  replace hrows := Aside0.mk hrows
  replace hGw := Aside0.mk hGw
  have lB58 : B58 < w58.heap.size := blk_lt e58
  clear wcu hm2 e58 hrow1 hCm hrow3 hHeld hR47 hC49 e49 hR50 hb50
  go_wp2
  go_loopw [60] (fun v60 wr => ∃ i : Nat, v60 = .int .i64 i ∧ i ≤ 4 ∧ Below w58.heap.size w58 wr) (fun v60 _ => 4 - (intOf v60).toNat)
  case atStart => exact ⟨0, rfl, by omega, (by repeat (first | exact Below.refl _ _ | with_reducible apply below_drew1 | with_reducible apply pw_below_drewN))⟩
  case round =>
   obtain ⟨i, rfl, hi, hB⟩ := hrel
   by_cases h4 : i < 4
   ·
    have hi0 : (i : Int) < 4 := by omega
    have hi1 : (0 : Int) ≤ (i : Int) := by omega
    obtain ⟨v, b, hv, hrow, hbb, hbl⟩ := hrows.out i h4
    obtain ⟨Ab, cb, rfl, hcb, hCb⟩ := hrow
    have hvr := (hB.cell (by exact lB58)).trans hv
    have hCb := Kd.C_below hCb hB
    go_upto_region 10 with go_in
    have TD := idec.calls Ab cb b wr hCb hcb hbb hbl
    clear hv hvr hbb hbl
    by_cases hno : NoIm b
    ·
     go_upto_region 11 with (first | (go_at_call 13; refine TD.mono ?_; rintro e w11 ⟨hb11, ⟨s2, c2, L2, V2, cv2, rfl, him2, hu2, hB2, hcv2, hCV2⟩ | ⟨rfl, _⟩⟩; exact absurd hB2 (hno s2 c2 L2 him2 hu2)) | go_in)
     have e18 := heap_alloc_new w11 (Obj.cells #[.int .i64 0, .int .i64 0, .slice none 0 0] 25 (0, 0))
     have hb12 : Below w11.heap.size w11 (w11.alloc (Obj.cells #[.int .i64 0, .int .i64 0, .slice none 0 0] 25 (0, 0))) := below_alloc (Below.refl _ _) _
     have hB12 := hB.trans ((hb11.trans (hb12.mono hb11.size)).mono hB.size)
     have hCb := Kd.C_below hCb (hb11.trans (hb12.mono hb11.size))
     generalize w11.alloc (Obj.cells #[.int .i64 0, .int .i64 0, .slice none 0 0] 25 (0, 0)) = w12 at *
     generalize w11.heap.size = B18 at *
     clear hb11 hb12 TD
     have lB18 : B18 < w12.heap.size := blk_lt e18
     have x0 : w12.cell? ⟨B18, 0, none⟩ = some (.int .i64 0) := (blk_cell e18 0).trans rfl
     have x1 : w12.cell? ⟨B18, 1, none⟩ = some (.int .i64 0) := (blk_cell e18 1).trans rfl
     have x2 : w12.cell? ⟨B18, 2, none⟩ = some (.slice none 0 0) := (blk_cell e18 2).trans rfl
     clear hno
     refine start_ (n := 34) (S := fun w' => Below w12.heap.size w12 w') (ds := []) #[false, false, false, false, false, false, false, false, false, false, false, false, false, false, false, false, false, false, false, false, false, false, false, false, false, false, false, false, false, false, false, false, false, false] (by kernel_rfl) rfl rfl (below_drew (Below.refl _ _)) (fun hHeld => ?_); refine with_tabW imbr.tab11 imbr.bits11 (fun HT_ HW_ => ?_)
     refine pure_ (i := 0) (N := some 69) (v := ?_) (a' := ?_) (bl 34 1) rfl rfl (any_of HT_.out (by kernel_rfl)) (fun _ _ _ h => h) (Or.inl ⟨by first | rfl | kernel_rfl, ?_⟩) ?_ ?_
     rotate_left
     ·
      intro w'
      go_simp
      with_reducible rfl
     rotate_left
     ·
      simp only [Act.put, List.setIfInBounds_toArray, List.set_cons_zero, List.set_cons_succ, i64_w, i32_w]
      rfl
     refine pure_ (i := 1) (N := some 70) (v := ?_) (a' := ?_) (bl 34 3) rfl rfl (any_of HT_.out (by kernel_rfl)) (fun _ _ _ h => h) (Or.inl ⟨by first | rfl | kernel_rfl, ?_⟩) ?_ ?_
     rotate_left
     ·
      intro w'
      go_simp
      with_reducible rfl
     rotate_left
     ·
      simp only [Act.put, List.setIfInBounds_toArray, List.set_cons_zero, List.set_cons_succ, i64_w, i32_w]
      rfl
     refine pure_ (i := 2) (N := some 71) (v := undef) (a' := ?_) (bl 34 7) rfl rfl (any_of HT_.out (by kernel_rfl)) (fun _ _ _ h => h) (Or.inr ⟨by first | rfl | kernel_rfl, rfl⟩) ?_ ?_
     rotate_left
     ·
      simp only [Act.put, List.setIfInBounds_toArray, List.set_cons_zero, List.set_cons_succ, i64_w, i32_w]
      rfl
     refine pure_ (i := 3) (N := some 72) (v := undef) (a' := ?_) (bl 34 15) rfl rfl (any_of HT_.out (by kernel_rfl)) (fun _ _ _ h => h) (Or.inr ⟨by first | rfl | kernel_rfl, rfl⟩) ?_ ?_
     rotate_left
     ·
      simp only [Act.put, List.setIfInBounds_toArray, List.set_cons_zero, List.set_cons_succ, i64_w, i32_w]
      rfl
     refine pure_ (i := 4) (N := some 73) (v := undef) (a' := ?_) (bl 34 31) rfl rfl (any_of HT_.out (by kernel_rfl)) (fun _ _ _ h => h) (Or.inr ⟨by first | rfl | kernel_rfl, rfl⟩) ?_ ?_
     rotate_left
     ·
      simp only [Act.put, List.setIfInBounds_toArray, List.set_cons_zero, List.set_cons_succ, i64_w, i32_w]
      rfl
     refine pure_ (i := 5) (N := some 74) (v := undef) (a' := ?_) (bl 34 63) rfl rfl (any_of HT_.out (by kernel_rfl)) (fun _ _ _ h => h) (Or.inr ⟨by first | rfl | kernel_rfl, rfl⟩) ?_ ?_
     rotate_left
     ·
      simp only [Act.put, List.setIfInBounds_toArray, List.set_cons_zero, List.set_cons_succ, i64_w, i32_w]
      rfl
     refine pure_ (i := 6) (N := some 75) (v := undef) (a' := ?_) (bl 34 127) rfl rfl (any_of HT_.out (by kernel_rfl)) (fun _ _ _ h => h) (Or.inr ⟨by first | rfl | kernel_rfl, rfl⟩) ?_ ?_
     rotate_left
     ·
      simp only [Act.put, List.setIfInBounds_toArray, List.set_cons_zero, List.set_cons_succ, i64_w, i32_w]
      rfl
     refine pure_ (i := 7) (N := some 76) (v := undef) (a' := ?_) (bl 34 255) rfl rfl (any_of HT_.out (by kernel_rfl)) (fun _ _ _ h => h) (Or.inr ⟨by first | rfl | kernel_rfl, rfl⟩) ?_ ?_
     rotate_left
     ·
      simp only [Act.put, List.setIfInBounds_toArray, List.set_cons_zero, List.set_cons_succ, i64_w, i32_w]
      rfl
     refine pure_ (i := 8) (N := some 77) (v := undef) (a' := ?_) (bl 34 511) rfl rfl (any_of HT_.out (by kernel_rfl)) (fun _ _ _ h => h) (Or.inr ⟨by first | rfl | kernel_rfl, rfl⟩) ?_ ?_
     rotate_left
     ·
      simp only [Act.put, List.setIfInBounds_toArray, List.set_cons_zero, List.set_cons_succ, i64_w, i32_w]
      rfl
     refine pure_ (i := 9) (N := some 78) (v := undef) (a' := ?_) (bl 34 1023) rfl rfl (any_of HT_.out (by kernel_rfl)) (fun _ _ _ h => h) (Or.inr ⟨by first | rfl | kernel_rfl, rfl⟩) ?_ ?_
     rotate_left
     ·
      simp only [Act.put, List.setIfInBounds_toArray, List.set_cons_zero, List.set_cons_succ, i64_w, i32_w]
      rfl
     refine pure_ (i := 10) (N := some 79) (v := undef) (a' := ?_) (bl 34 2047) rfl rfl (any_of HT_.out (by kernel_rfl)) (fun _ _ _ h => h) (Or.inr ⟨by first | rfl | kernel_rfl, rfl⟩) ?_ ?_
     rotate_left
     ·
      simp only [Act.put, List.setIfInBounds_toArray, List.set_cons_zero, List.set_cons_succ, i64_w, i32_w]
      rfl
     refine pure_ (i := 11) (N := some 80) (v := undef) (a' := ?_) (bl 34 4095) rfl rfl (any_of HT_.out (by kernel_rfl)) (fun _ _ _ h => h) (Or.inr ⟨by first | rfl | kernel_rfl, rfl⟩) ?_ ?_
     rotate_left
     ·
      simp only [Act.put, List.setIfInBounds_toArray, List.set_cons_zero, List.set_cons_succ, i64_w, i32_w]
      rfl
     refine pure_ (i := 12) (N := some 81) (v := undef) (a' := ?_) (bl 34 8191) rfl rfl (any_of HT_.out (by kernel_rfl)) (fun _ _ _ h => h) (Or.inr ⟨by first | rfl | kernel_rfl, rfl⟩) ?_ ?_
     rotate_left
     ·
      simp only [Act.put, List.setIfInBounds_toArray, List.set_cons_zero, List.set_cons_succ, i64_w, i32_w]
      rfl
     refine pure_ (i := 13) (N := some 82) (v := ?_) (a' := ?_) (bl 34 16383) rfl rfl (any_of HT_.out (by kernel_rfl)) (fun _ _ _ h => h) (Or.inl ⟨by first | rfl | kernel_rfl, ?_⟩) ?_ ?_
     rotate_left
     ·
      intro w'
      go_simp
      with_reducible rfl
     rotate_left
     ·
      simp only [Act.put, List.setIfInBounds_toArray, List.set_cons_zero, List.set_cons_succ, i64_w, i32_w]
      rfl
     refine pure_ (i := 14) (N := some 83) (v := ?_) (a' := ?_) (bl 34 32767) rfl rfl (any_of HT_.out (by kernel_rfl)) (fun _ _ _ h => h) (Or.inl ⟨by first | rfl | kernel_rfl, ?_⟩) ?_ ?_
     rotate_left
     ·
      intro w'
      go_simp
      with_reducible rfl
     rotate_left
     ·
      simp only [Act.put, List.setIfInBounds_toArray, List.set_cons_zero, List.set_cons_succ, i64_w, i32_w]
      rfl
     refine pure_ (i := 15) (N := some 84) (v := ?_) (a' := ?_) (bl 34 65535) rfl rfl (any_of HT_.out (by kernel_rfl)) (fun _ _ _ h => h) (Or.inl ⟨by first | rfl | kernel_rfl, ?_⟩) ?_ ?_
     rotate_left
     ·
      intro w'
      go_simp
      with_reducible rfl
     rotate_left
     ·
      simp only [Act.put, List.setIfInBounds_toArray, List.set_cons_zero, List.set_cons_succ, i64_w, i32_w]
      rfl
     refine pure_ (i := 16) (N := some 85) (v := ?_) (a' := ?_) (bl 34 131071) rfl rfl (any_of HT_.out (by kernel_rfl)) (fun _ _ _ h => h) (Or.inl ⟨by first | rfl | kernel_rfl, ?_⟩) ?_ ?_
     rotate_left
     ·
      intro w'
      go_simp
      with_reducible rfl
     rotate_left
     ·
      simp only [Act.put, List.setIfInBounds_toArray, List.set_cons_zero, List.set_cons_succ, i64_w, i32_w]
      rfl
     refine pure_ (i := 17) (N := some 86) (v := ?_) (a' := ?_) (bl 34 262143) rfl rfl (any_of HT_.out (by kernel_rfl)) (fun _ _ _ h => h) (Or.inl ⟨by first | rfl | kernel_rfl, ?_⟩) ?_ ?_
     rotate_left
     ·
      intro w'
      go_simp
      with_reducible rfl
     rotate_left
     ·
      simp only [Act.put, List.setIfInBounds_toArray, List.set_cons_zero, List.set_cons_succ, i64_w, i32_w]
      rfl
     refine pure_ (i := 18) (N := some 87) (v := ?_) (a' := ?_) (bl 34 524287) rfl rfl (any_of HT_.out (by kernel_rfl)) (fun _ _ _ h => h) (Or.inl ⟨by first | rfl | kernel_rfl, ?_⟩) ?_ ?_
     rotate_left
     ·
      intro w'
      go_simp
      with_reducible rfl
     rotate_left
     ·
      simp only [Act.put, List.setIfInBounds_toArray, List.set_cons_zero, List.set_cons_succ, i64_w, i32_w]
      rfl
     refine take_ (i := 19) (N := some 88) (v := ?_) (a' := ?_) (bl 34 1048575) rfl rfl (take_ofW HT_.out HW_.out (by kernel_rfl)) (fun _ _ _ h => h) (Or.inl ⟨by first | rfl | kernel_rfl, ?_⟩) hHeld ?_ ?_
     rotate_left
     ·
      intro w' s0
      have z0 := (s0.cell (by exact lB18)).trans x0
      have z1 := (s0.cell (by exact lB18)).trans x1
      have z2 := (s0.cell (by exact lB18)).trans x2
      go_simp
      with_reducible rfl
     rotate_left
     ·
      simp only [Act.put, List.setIfInBounds_toArray, List.set_cons_zero, List.set_cons_succ, i64_w, i32_w]
      rfl
     refine pure_ (i := 20) (N := some 89) (v := ?_) (a' := ?_) (bl 34 2097151) rfl rfl (any_of HT_.out (by kernel_rfl)) (fun _ _ _ h => h) (Or.inl ⟨by first | rfl | kernel_rfl, ?_⟩) ?_ ?_
     rotate_left
     ·
      intro w'
      go_simp
      with_reducible rfl
     rotate_left
     ·
      simp only [Act.put, List.setIfInBounds_toArray, List.set_cons_zero, List.set_cons_succ, i64_w, i32_w]
      rfl
     refine pure_ (i := 21) (N := some 90) (v := ?_) (a' := ?_) (bl 34 4194303) rfl rfl (any_of HT_.out (by kernel_rfl)) (fun _ _ _ h => h) (Or.inl ⟨by first | rfl | kernel_rfl, ?_⟩) ?_ ?_
     rotate_left
     ·
      intro w'
      go_simp
      with_reducible rfl
     rotate_left
     ·
      simp only [Act.put, List.setIfInBounds_toArray, List.set_cons_zero, List.set_cons_succ, i64_w, i32_w]
      rfl
     refine pure_ (i := 22) (N := some 91) (v := ?_) (a' := ?_) (bl 34 8388607) rfl rfl (any_of HT_.out (by kernel_rfl)) (fun _ _ _ h => h) (Or.inl ⟨by first | rfl | kernel_rfl, ?_⟩) ?_ ?_
     rotate_left
     ·
      intro w'
      go_simp
      with_reducible rfl
     rotate_left
     ·
      simp only [Act.put, List.setIfInBounds_toArray, List.set_cons_zero, List.set_cons_succ, i64_w, i32_w]
      rfl
     refine take_ (i := 23) (N := some 92) (v := ?_) (a' := ?_) (bl 34 16777215) rfl rfl (take_ofW HT_.out HW_.out (by kernel_rfl)) (fun _ _ _ h => h) (Or.inl ⟨by first | rfl | kernel_rfl, ?_⟩) hHeld ?_ ?_
     rotate_left
     ·
      intro w' s0
      have z0 := (s0.cell (by exact lB18)).trans x0
      have z1 := (s0.cell (by exact lB18)).trans x1
      have z2 := (s0.cell (by exact lB18)).trans x2
      go_simp
      with_reducible rfl
     rotate_left
     ·
      simp only [Act.put, List.setIfInBounds_toArray, List.set_cons_zero, List.set_cons_succ, i64_w, i32_w]
      rfl
     refine pure_ (i := 24) (N := some 93) (v := ?_) (a' := ?_) (bl 34 33554431) rfl rfl (any_of HT_.out (by kernel_rfl)) (fun _ _ _ h => h) (Or.inl ⟨by first | rfl | kernel_rfl, ?_⟩) ?_ ?_
     rotate_left
     ·
      intro w'
      go_simp
      with_reducible rfl
     rotate_left
     ·
      simp only [Act.put, List.setIfInBounds_toArray, List.set_cons_zero, List.set_cons_succ, i64_w, i32_w]
      rfl
     refine pure_ (i := 25) (N := some 94) (v := ?_) (a' := ?_) (bl 34 67108863) rfl rfl (any_of HT_.out (by kernel_rfl)) (fun _ _ _ h => h) (Or.inl ⟨by first | rfl | kernel_rfl, ?_⟩) ?_ ?_
     rotate_left
     ·
      intro w'
      go_simp
      with_reducible rfl
     rotate_left
     ·
      simp only [Act.put, List.setIfInBounds_toArray, List.set_cons_zero, List.set_cons_succ, i64_w, i32_w]
      rfl
     refine pure_ (i := 26) (N := some 95) (v := ?_) (a' := ?_) (bl 34 134217727) rfl rfl (any_of HT_.out (by kernel_rfl)) (fun _ _ _ h => h) (Or.inl ⟨by first | rfl | kernel_rfl, ?_⟩) ?_ ?_
     rotate_left
     ·
      intro w'
      go_simp
      with_reducible rfl
     rotate_left
     ·
      simp only [Act.put, List.setIfInBounds_toArray, List.set_cons_zero, List.set_cons_succ, i64_w, i32_w]
      rfl
     refine pure_ (i := 27) (N := some 96) (v := ?_) (a' := ?_) (bl 34 268435455) rfl rfl (any_of HT_.out (by kernel_rfl)) (fun _ _ _ h => h) (Or.inl ⟨by first | rfl | kernel_rfl, ?_⟩) ?_ ?_
     rotate_left
     ·
      intro w'
      go_simp
      with_reducible rfl
     rotate_left
     ·
      simp only [Act.put, List.setIfInBounds_toArray, List.set_cons_zero, List.set_cons_succ, i64_w, i32_w]
      rfl
     refine take_ (i := 28) (N := some 97) (v := ?_) (a' := ?_) (bl 34 536870911) rfl rfl (take_ofW HT_.out HW_.out (by kernel_rfl)) (fun _ _ _ h => h) (Or.inl ⟨by first | rfl | kernel_rfl, ?_⟩) hHeld ?_ ?_
     rotate_left
     ·
      intro w' s0
      have z0 := (s0.cell (by exact lB18)).trans x0
      have z1 := (s0.cell (by exact lB18)).trans x1
      have z2 := (s0.cell (by exact lB18)).trans x2
      go_simp
      with_reducible rfl
     rotate_left
     ·
      simp only [Act.put, List.setIfInBounds_toArray, List.set_cons_zero, List.set_cons_succ, i64_w, i32_w]
      rfl
     refine pure_ (i := 29) (N := some 98) (v := ?_) (a' := ?_) (bl 34 1073741823) rfl rfl (any_of HT_.out (by kernel_rfl)) (fun _ _ _ h => h) (Or.inl ⟨by first | rfl | kernel_rfl, ?_⟩) ?_ ?_
     rotate_left
     ·
      intro w'
      go_simp
      with_reducible rfl
     rotate_left
     ·
      simp only [Act.put, List.setIfInBounds_toArray, List.set_cons_zero, List.set_cons_succ, i64_w, i32_w]
      rfl
     refine pure_ (i := 30) (N := some 99) (v := ?_) (a' := ?_) (bl 34 2147483647) rfl rfl (any_of HT_.out (by kernel_rfl)) (fun _ _ _ h => h) (Or.inl ⟨by first | rfl | kernel_rfl, ?_⟩) ?_ ?_
     rotate_left
     ·
      intro w'
      go_simp
      with_reducible rfl
     rotate_left
     ·
      simp only [Act.put, List.setIfInBounds_toArray, List.set_cons_zero, List.set_cons_succ, i64_w, i32_w]
      rfl
     refine pure_ (i := 31) (N := some 100) (v := ?_) (a' := ?_) (bl 34 4294967295) rfl rfl (any_of HT_.out (by kernel_rfl)) (fun _ _ _ h => h) (Or.inl ⟨by first | rfl | kernel_rfl, ?_⟩) ?_ ?_
     rotate_left
     ·
      intro w'
      go_simp
      with_reducible rfl
     rotate_left
     ·
      simp only [Act.put, List.setIfInBounds_toArray, List.set_cons_zero, List.set_cons_succ, i64_w, i32_w]
      rfl
     refine pure_ (i := 32) (N := some 101) (v := ?_) (a' := ?_) (bl 34 8589934591) rfl rfl (any_of HT_.out (by kernel_rfl)) (fun _ _ _ h => h) (Or.inl ⟨by first | rfl | kernel_rfl, ?_⟩) ?_ ?_
     rotate_left
     ·
      intro w'
      go_simp
      with_reducible rfl
     rotate_left
     ·
      simp only [Act.put, List.setIfInBounds_toArray, List.set_cons_zero, List.set_cons_succ, i64_w, i32_w]
      rfl
     refine pure_ (i := 33) (N := some 102) (v := ?_) (a' := ?_) (bl 34 17179869183) rfl rfl (any_of HT_.out (by kernel_rfl)) (fun _ _ _ h => h) (Or.inl ⟨by first | rfl | kernel_rfl, ?_⟩) ?_ ?_
     rotate_left
     ·
      intro w'
      go_simp
      with_reducible rfl
     rotate_left
     ·
      simp only [Act.put, List.setIfInBounds_toArray, List.set_cons_zero, List.set_cons_succ, i64_w, i32_w]
      rfl
     refine done_ (done_of HT_.out (by kernel_rfl)) ?_
     clear HT_ HW_
     have hB := hB12.trans (hHeld.mono hB12.size)
     go_wp2
     go_roundw
     case rel => exact ⟨i + 1, by first | rfl | go_num, by omega, (by repeat (first | exact hB | with_reducible apply below_drew1 | with_reducible apply pw_below_drewN))⟩
     case measure => simp [intOf]; omega
    ·
     go_upto_region 11 with (first | (go_at_call 13; refine TD.mono ?_; rintro e w11 ⟨hb11, ⟨s2, c2, L2, V2, cv2, rfl, him2, hu2, hB2, hcv2, hCV2⟩ | ⟨rfl, hno2⟩⟩; rotate_left; exact absurd hno2 hno) | go_in)
     have e18 := heap_alloc_new w11 (Obj.cells #[.int .i64 s2, .int .i64 c2, .slice V2 L2.length cv2] 25 (0, 0))
     have hb12 : Below w11.heap.size w11 (w11.alloc (Obj.cells #[.int .i64 s2, .int .i64 c2, .slice V2 L2.length cv2] 25 (0, 0))) := below_alloc (Below.refl _ _) _
     have hCV2 := Kd.C_below hCV2 hb12
     have hB12 := hB.trans ((hb11.trans (hb12.mono hb11.size)).mono hB.size)
     have hCb := Kd.C_below hCb (hb11.trans (hb12.mono hb11.size))
     generalize w11.alloc (Obj.cells #[.int .i64 s2, .int .i64 c2, .slice V2 L2.length cv2] 25 (0, 0)) = w12 at *
     generalize w11.heap.size = B18 at *
     clear hb11 hb12 TD
     have lB18 : B18 < w12.heap.size := blk_lt e18
     have x0 : w12.cell? ⟨B18, 0, none⟩ = some (.int .i64 s2) := (blk_cell e18 0).trans rfl
     have x1 : w12.cell? ⟨B18, 1, none⟩ = some (.int .i64 c2) := (blk_cell e18 1).trans rfl
     have x2 : w12.cell? ⟨B18, 2, none⟩ = some (.slice V2 L2.length cv2) := (blk_cell e18 2).trans rfl
     clear hno
     subst hB2
     obtain ⟨kb2, hkb2⟩ : ∃ k, tautochronelaw21_bytes.f k s2 c2 L2 = some (imB s2 c2 L2) := Ev.rounds (lbytes_ev s2 c2 L2 him2)
     replace him2 := Aside0.mk him2
     replace hu2 := Aside0.mk hu2
     refine start_ (n := 34) (S := fun w' => Below w12.heap.size w12 w') (ds := []) #[false, false, false, false, false, false, false, false, false, false, false, false, false, false, false, false, false, false, false, false, false, false, false, false, false, false, false, false, false, false, false, false, false, false] (by kernel_rfl) rfl rfl (below_drew (Below.refl _ _)) (fun hHeld => ?_); refine with_tabW imbr.tab11 imbr.bits11 (fun HT_ HW_ => ?_)
     refine pure_ (i := 0) (N := some 69) (v := ?_) (a' := ?_) (bl 34 1) rfl rfl (any_of HT_.out (by kernel_rfl)) (fun _ _ _ h => h) (Or.inl ⟨by first | rfl | kernel_rfl, ?_⟩) ?_ ?_
     rotate_left
     ·
      intro w'
      go_simp
      with_reducible rfl
     rotate_left
     ·
      simp only [Act.put, List.setIfInBounds_toArray, List.set_cons_zero, List.set_cons_succ, i64_w, i32_w]
      rfl
     refine pure_ (i := 1) (N := some 70) (v := ?_) (a' := ?_) (bl 34 3) rfl rfl (any_of HT_.out (by kernel_rfl)) (fun _ _ _ h => h) (Or.inl ⟨by first | rfl | kernel_rfl, ?_⟩) ?_ ?_
     rotate_left
     ·
      intro w'
      go_simp
      with_reducible rfl
     rotate_left
     ·
      simp only [Act.put, List.setIfInBounds_toArray, List.set_cons_zero, List.set_cons_succ, i64_w, i32_w]
      rfl
     refine take_ (i := 2) (N := some 71) (v := ?_) (a' := ?_) (bl 34 7) rfl rfl (take_ofW HT_.out HW_.out (by kernel_rfl)) (fun _ _ _ h => h) (Or.inl ⟨by first | rfl | kernel_rfl, ?_⟩) hHeld ?_ ?_
     rotate_left
     ·
      intro w' s0
      have z0 := (s0.cell (by exact lB18)).trans x0
      have z1 := (s0.cell (by exact lB18)).trans x1
      have z2 := (s0.cell (by exact lB18)).trans x2
      go_simp
      with_reducible rfl
     rotate_left
     ·
      simp only [Act.put, List.setIfInBounds_toArray, List.set_cons_zero, List.set_cons_succ, i64_w, i32_w]
      rfl
     refine one_ (i := 3) (N := some 72) (bl 34 15) rfl rfl (one_of HT_.out (by kernel_rfl)) (by decide) (fun K hK => ?_)
     refine goes_ Try.func11 (by kernel_rfl) rfl #[.agg #[.int .i64 s2, .int .i64 c2, .slice V2 L2.length cv2]] (by first | rfl | kernel_rfl) rfl rfl (by first | rfl | kernel_rfl) ?_
     refine (lmayT.calls s2 c2 V2 cv2 L2 _ (Kd.C_below hCV2 hHeld) hcv2 him2.out hu2.out).mono ?_
     rintro e w8 ⟨rfl, hb8⟩
     have hHeld := hHeld.trans (hb8.mono hHeld.size)
     refine ⟨_, rfl, hK.out _ _ hHeld (fun hHeld => ?_)⟩
     clear hK K
     refine norm_ (a' := ?_) ?_ ?_
     rotate_left
     ·
      show Act.put _ (some 72) _ = _
      simp only [Act.put, List.setIfInBounds_toArray, List.set_cons_zero, List.set_cons_succ, i64_w, i32_w]
      rfl
     refine pure_ (i := 4) (N := some 73) (v := ?_) (a' := ?_) (bl 34 31) rfl rfl (any_of HT_.out (by kernel_rfl)) (fun _ _ _ h => h) (Or.inl ⟨by first | rfl | kernel_rfl, ?_⟩) ?_ ?_
     rotate_left
     ·
      intro w'
      go_simp
      with_reducible rfl
     rotate_left
     ·
      simp only [Act.put, List.setIfInBounds_toArray, List.set_cons_zero, List.set_cons_succ, i64_w, i32_w]
      rfl
     refine pure_ (i := 5) (N := some 74) (v := ?_) (a' := ?_) (bl 34 63) rfl rfl (any_of HT_.out (by kernel_rfl)) (fun _ _ _ h => h) (Or.inl ⟨by first | rfl | kernel_rfl, ?_⟩) ?_ ?_
     rotate_left
     ·
      intro w'
      go_simp
      with_reducible rfl
     rotate_left
     ·
      simp only [Act.put, List.setIfInBounds_toArray, List.set_cons_zero, List.set_cons_succ, i64_w, i32_w]
      rfl
     refine take_ (i := 6) (N := some 75) (v := ?_) (a' := ?_) (bl 34 127) rfl rfl (take_ofW HT_.out HW_.out (by kernel_rfl)) (fun _ _ _ h => h) (Or.inl ⟨by first | rfl | kernel_rfl, ?_⟩) hHeld ?_ ?_
     rotate_left
     ·
      intro w' s0
      have z0 := (s0.cell (by exact lB18)).trans x0
      have z1 := (s0.cell (by exact lB18)).trans x1
      have z2 := (s0.cell (by exact lB18)).trans x2
      go_simp
      with_reducible rfl
     rotate_left
     ·
      simp only [Act.put, List.setIfInBounds_toArray, List.set_cons_zero, List.set_cons_succ, i64_w, i32_w]
      rfl
     refine pure_ (i := 9) (N := some 78) (v := ?_) (a' := ?_) (bl 34 639) rfl rfl (any_of HT_.out (by kernel_rfl)) (fun _ _ _ h => h) (Or.inl ⟨by first | rfl | kernel_rfl, ?_⟩) ?_ ?_
     rotate_left
     ·
      intro w'
      go_simp
      with_reducible rfl
     rotate_left
     ·
      simp only [Act.put, List.setIfInBounds_toArray, List.set_cons_zero, List.set_cons_succ, i64_w, i32_w]
      rfl
     refine take_ (i := 10) (N := some 79) (v := ?_) (a' := ?_) (bl 34 1663) rfl rfl (take_ofW HT_.out HW_.out (by kernel_rfl)) (fun _ _ _ h => h) (Or.inl ⟨by first | rfl | kernel_rfl, ?_⟩) hHeld ?_ ?_
     rotate_left
     ·
      intro w' s0
      have zc := Kd.C_string (P := Try.prog) (c := cb) Try.underlying27 Try.underlying5 Try.underlying9 (Kd.C_below hCb s0)
      go_simp
      with_reducible rfl
     rotate_left
     ·
      simp only [Act.put, List.setIfInBounds_toArray, List.set_cons_zero, List.set_cons_succ, i64_w, i32_w]
      rfl
     refine one_ (i := 7) (N := some 76) (bl 34 1791) rfl rfl (one_of HT_.out (by kernel_rfl)) (by decide) (fun K hK => ?_)
     refine goes_ Try.func14 (by kernel_rfl) rfl #[.agg #[.int .i64 s2, .int .i64 c2, .slice V2 L2.length cv2]] (by first | rfl | kernel_rfl) rfl rfl (by first | rfl | kernel_rfl) ?_
     refine (tautochronelaw21_bytes.calls kb2 s2 c2 V2 cv2 L2 (imB s2 c2 L2) _ (Kd.C_below hCV2 hHeld) hcv2 hkb2).mono ?_
     rintro e w8 ⟨vq, rfl, hRq, hb8⟩
     obtain ⟨Uq, cuq, rfl, hcuq, hCUq⟩ := Kd.R_reads hRq
     clear hRq
     have hHeld := hHeld.trans (hb8.mono hHeld.size)
     refine ⟨_, rfl, hK.out _ _ hHeld (fun hHeld => ?_)⟩
     clear hK K
     refine norm_ (a' := ?_) ?_ ?_
     rotate_left
     ·
      show Act.put _ (some 76) _ = _
      simp only [Act.put, List.setIfInBounds_toArray, List.set_cons_zero, List.set_cons_succ, i64_w, i32_w]
      rfl
     refine one_ (i := 8) (N := some 77) (bl 34 2047) rfl rfl (one_of HT_.out (by kernel_rfl)) (by decide) (fun K hK => ?_)
     refine value_ (w1 := ?_) (v := ?_) (by first | rfl | kernel_rfl) rfl ?_ ?_
     rotate_left 2
     ·
      have zc := Kd.C_string (P := Try.prog) (c := cuq) Try.underlying27 Try.underlying5 Try.underlying9 hCUq
      go_simp
      constructor
      ·
       rfl
      ·
       rfl
     refine hK.out _ _ hHeld (fun hHeld => ?_)
     clear hK K
     refine norm_ (a' := ?_) ?_ ?_
     rotate_left
     ·
      show Act.put _ (some 77) _ = _
      simp only [Act.put, List.setIfInBounds_toArray, List.set_cons_zero, List.set_cons_succ, i64_w, i32_w]
      rfl
     refine pure_ (i := 11) (N := some 80) (v := ?_) (a' := ?_) (bl 34 4095) rfl rfl (any_of HT_.out (by kernel_rfl)) (fun _ _ _ h => h) (Or.inl ⟨by first | rfl | kernel_rfl, ?_⟩) ?_ ?_
     rotate_left
     ·
      intro w'
      go_simp
      with_reducible rfl
     rotate_left
     ·
      simp only [Act.put, List.setIfInBounds_toArray, List.set_cons_zero, List.set_cons_succ, i64_w, i32_w]
      rfl
     refine pure_ (i := 12) (N := some 81) (v := ?_) (a' := ?_) (bl 34 8191) rfl rfl (any_of HT_.out (by kernel_rfl)) (fun _ _ _ h => h) (Or.inl ⟨by first | rfl | kernel_rfl, ?_⟩) ?_ ?_
     rotate_left
     ·
      intro w'
      go_simp
      with_reducible rfl
     rotate_left
     ·
      simp only [Act.put, List.setIfInBounds_toArray, List.set_cons_zero, List.set_cons_succ, i64_w, i32_w]
      rfl
     refine pure_ (i := 13) (N := some 82) (v := ?_) (a' := ?_) (bl 34 16383) rfl rfl (any_of HT_.out (by kernel_rfl)) (fun _ _ _ h => h) (Or.inl ⟨by first | rfl | kernel_rfl, ?_⟩) ?_ ?_
     rotate_left
     ·
      intro w'
      go_simp
      with_reducible rfl
     rotate_left
     ·
      simp only [Act.put, List.setIfInBounds_toArray, List.set_cons_zero, List.set_cons_succ, i64_w, i32_w]
      rfl
     refine pure_ (i := 14) (N := some 83) (v := ?_) (a' := ?_) (bl 34 32767) rfl rfl (any_of HT_.out (by kernel_rfl)) (fun _ _ _ h => h) (Or.inl ⟨by first | rfl | kernel_rfl, ?_⟩) ?_ ?_
     rotate_left
     ·
      intro w'
      go_simp
      with_reducible rfl
     rotate_left
     ·
      simp only [Act.put, List.setIfInBounds_toArray, List.set_cons_zero, List.set_cons_succ, i64_w, i32_w]
      rfl
     refine pure_ (i := 15) (N := some 84) (v := ?_) (a' := ?_) (bl 34 65535) rfl rfl (any_of HT_.out (by kernel_rfl)) (fun _ _ _ h => h) (Or.inl ⟨by first | rfl | kernel_rfl, ?_⟩) ?_ ?_
     rotate_left
     ·
      intro w'
      go_simp
      with_reducible rfl
     rotate_left
     ·
      simp only [Act.put, List.setIfInBounds_toArray, List.set_cons_zero, List.set_cons_succ, i64_w, i32_w]
      rfl
     refine pure_ (i := 16) (N := some 85) (v := ?_) (a' := ?_) (bl 34 131071) rfl rfl (any_of HT_.out (by kernel_rfl)) (fun _ _ _ h => h) (Or.inl ⟨by first | rfl | kernel_rfl, ?_⟩) ?_ ?_
     rotate_left
     ·
      intro w'
      go_simp
      with_reducible rfl
     rotate_left
     ·
      simp only [Act.put, List.setIfInBounds_toArray, List.set_cons_zero, List.set_cons_succ, i64_w, i32_w]
      rfl
     refine pure_ (i := 17) (N := some 86) (v := ?_) (a' := ?_) (bl 34 262143) rfl rfl (any_of HT_.out (by kernel_rfl)) (fun _ _ _ h => h) (Or.inl ⟨by first | rfl | kernel_rfl, ?_⟩) ?_ ?_
     rotate_left
     ·
      intro w'
      go_simp
      with_reducible rfl
     rotate_left
     ·
      simp only [Act.put, List.setIfInBounds_toArray, List.set_cons_zero, List.set_cons_succ, i64_w, i32_w]
      rfl
     refine pure_ (i := 18) (N := some 87) (v := undef) (a' := ?_) (bl 34 524287) rfl rfl (any_of HT_.out (by kernel_rfl)) (fun _ _ _ h => h) (Or.inr ⟨by first | rfl | kernel_rfl, rfl⟩) ?_ ?_
     rotate_left
     ·
      simp only [Act.put, List.setIfInBounds_toArray, List.set_cons_zero, List.set_cons_succ, i64_w, i32_w]
      rfl
     refine pure_ (i := 19) (N := some 88) (v := undef) (a' := ?_) (bl 34 1048575) rfl rfl (any_of HT_.out (by kernel_rfl)) (fun _ _ _ h => h) (Or.inr ⟨by first | rfl | kernel_rfl, rfl⟩) ?_ ?_
     rotate_left
     ·
      simp only [Act.put, List.setIfInBounds_toArray, List.set_cons_zero, List.set_cons_succ, i64_w, i32_w]
      rfl
     refine pure_ (i := 20) (N := some 89) (v := undef) (a' := ?_) (bl 34 2097151) rfl rfl (any_of HT_.out (by kernel_rfl)) (fun _ _ _ h => h) (Or.inr ⟨by first | rfl | kernel_rfl, rfl⟩) ?_ ?_
     rotate_left
     ·
      simp only [Act.put, List.setIfInBounds_toArray, List.set_cons_zero, List.set_cons_succ, i64_w, i32_w]
      rfl
     refine pure_ (i := 21) (N := some 90) (v := undef) (a' := ?_) (bl 34 4194303) rfl rfl (any_of HT_.out (by kernel_rfl)) (fun _ _ _ h => h) (Or.inr ⟨by first | rfl | kernel_rfl, rfl⟩) ?_ ?_
     rotate_left
     ·
      simp only [Act.put, List.setIfInBounds_toArray, List.set_cons_zero, List.set_cons_succ, i64_w, i32_w]
      rfl
     refine pure_ (i := 22) (N := some 91) (v := undef) (a' := ?_) (bl 34 8388607) rfl rfl (any_of HT_.out (by kernel_rfl)) (fun _ _ _ h => h) (Or.inr ⟨by first | rfl | kernel_rfl, rfl⟩) ?_ ?_
     rotate_left
     ·
      simp only [Act.put, List.setIfInBounds_toArray, List.set_cons_zero, List.set_cons_succ, i64_w, i32_w]
      rfl
     refine pure_ (i := 23) (N := some 92) (v := undef) (a' := ?_) (bl 34 16777215) rfl rfl (any_of HT_.out (by kernel_rfl)) (fun _ _ _ h => h) (Or.inr ⟨by first | rfl | kernel_rfl, rfl⟩) ?_ ?_
     rotate_left
     ·
      simp only [Act.put, List.setIfInBounds_toArray, List.set_cons_zero, List.set_cons_succ, i64_w, i32_w]
      rfl
     refine pure_ (i := 24) (N := some 93) (v := undef) (a' := ?_) (bl 34 33554431) rfl rfl (any_of HT_.out (by kernel_rfl)) (fun _ _ _ h => h) (Or.inr ⟨by first | rfl | kernel_rfl, rfl⟩) ?_ ?_
     rotate_left
     ·
      simp only [Act.put, List.setIfInBounds_toArray, List.set_cons_zero, List.set_cons_succ, i64_w, i32_w]
      rfl
     refine pure_ (i := 25) (N := some 94) (v := undef) (a' := ?_) (bl 34 67108863) rfl rfl (any_of HT_.out (by kernel_rfl)) (fun _ _ _ h => h) (Or.inr ⟨by first | rfl | kernel_rfl, rfl⟩) ?_ ?_
     rotate_left
     ·
      simp only [Act.put, List.setIfInBounds_toArray, List.set_cons_zero, List.set_cons_succ, i64_w, i32_w]
      rfl
     refine pure_ (i := 26) (N := some 95) (v := undef) (a' := ?_) (bl 34 134217727) rfl rfl (any_of HT_.out (by kernel_rfl)) (fun _ _ _ h => h) (Or.inr ⟨by first | rfl | kernel_rfl, rfl⟩) ?_ ?_
     rotate_left
     ·
      simp only [Act.put, List.setIfInBounds_toArray, List.set_cons_zero, List.set_cons_succ, i64_w, i32_w]
      rfl
     refine pure_ (i := 27) (N := some 96) (v := undef) (a' := ?_) (bl 34 268435455) rfl rfl (any_of HT_.out (by kernel_rfl)) (fun _ _ _ h => h) (Or.inr ⟨by first | rfl | kernel_rfl, rfl⟩) ?_ ?_
     rotate_left
     ·
      simp only [Act.put, List.setIfInBounds_toArray, List.set_cons_zero, List.set_cons_succ, i64_w, i32_w]
      rfl
     refine pure_ (i := 28) (N := some 97) (v := undef) (a' := ?_) (bl 34 536870911) rfl rfl (any_of HT_.out (by kernel_rfl)) (fun _ _ _ h => h) (Or.inr ⟨by first | rfl | kernel_rfl, rfl⟩) ?_ ?_
     rotate_left
     ·
      simp only [Act.put, List.setIfInBounds_toArray, List.set_cons_zero, List.set_cons_succ, i64_w, i32_w]
      rfl
     refine pure_ (i := 29) (N := some 98) (v := undef) (a' := ?_) (bl 34 1073741823) rfl rfl (any_of HT_.out (by kernel_rfl)) (fun _ _ _ h => h) (Or.inr ⟨by first | rfl | kernel_rfl, rfl⟩) ?_ ?_
     rotate_left
     ·
      simp only [Act.put, List.setIfInBounds_toArray, List.set_cons_zero, List.set_cons_succ, i64_w, i32_w]
      rfl
     refine pure_ (i := 30) (N := some 99) (v := undef) (a' := ?_) (bl 34 2147483647) rfl rfl (any_of HT_.out (by kernel_rfl)) (fun _ _ _ h => h) (Or.inr ⟨by first | rfl | kernel_rfl, rfl⟩) ?_ ?_
     rotate_left
     ·
      simp only [Act.put, List.setIfInBounds_toArray, List.set_cons_zero, List.set_cons_succ, i64_w, i32_w]
      rfl
     refine pure_ (i := 31) (N := some 100) (v := undef) (a' := ?_) (bl 34 4294967295) rfl rfl (any_of HT_.out (by kernel_rfl)) (fun _ _ _ h => h) (Or.inr ⟨by first | rfl | kernel_rfl, rfl⟩) ?_ ?_
     rotate_left
     ·
      simp only [Act.put, List.setIfInBounds_toArray, List.set_cons_zero, List.set_cons_succ, i64_w, i32_w]
      rfl
     refine pure_ (i := 32) (N := some 101) (v := ?_) (a' := ?_) (bl 34 8589934591) rfl rfl (any_of HT_.out (by kernel_rfl)) (fun _ _ _ h => h) (Or.inl ⟨by first | rfl | kernel_rfl, ?_⟩) ?_ ?_
     rotate_left
     ·
      intro w'
      go_simp
      with_reducible rfl
     rotate_left
     ·
      simp only [Act.put, List.setIfInBounds_toArray, List.set_cons_zero, List.set_cons_succ, i64_w, i32_w]
      rfl
     refine pure_ (i := 33) (N := some 102) (v := ?_) (a' := ?_) (bl 34 17179869183) rfl rfl (any_of HT_.out (by kernel_rfl)) (fun _ _ _ h => h) (Or.inl ⟨by first | rfl | kernel_rfl, ?_⟩) ?_ ?_
     rotate_left
     ·
      intro w'
      go_simp
      with_reducible rfl
     rotate_left
     ·
      simp only [Act.put, List.setIfInBounds_toArray, List.set_cons_zero, List.set_cons_succ, i64_w, i32_w]
      rfl
     refine done_ (done_of HT_.out (by kernel_rfl)) ?_
     clear HT_ HW_
     have hB := hB12.trans (hHeld.mono hB12.size)
     go_wp2
     go_roundw
     case rel => exact ⟨i + 1, by first | rfl | go_num, by omega, (by repeat (first | exact hB | with_reducible apply below_drew1 | with_reducible apply pw_below_drewN))⟩
     case measure => simp [intOf]; omega
   ·
    have hi4 : ¬ (i : Int) < 4 := by omega
    have hCGr := Kd.C_below hCG hB
    have hCkr := hCk.below hB
    obtain ⟨Ak, ck, ek, hck, hCkr⟩ := hCkr
    have hlk : (G.take k.toNat).length = k.toNat := by rw [List.length_take]; omega
    obtain ⟨rfl, rfl⟩ : Ag = Ak ∧ cg = ck := by injection ek with h1 h2 h3; exact ⟨h1, h3⟩
    have TD := idec.calls Ag cg (G.take k.toNat) wr hCkr hck (fun x hx => hGb.out x (List.mem_of_mem_take hx)) (by omega)
    rw [hlk] at TD
    replace hB := HB58.trans (hB.mono HB58.size)
    clear hCkr ek hck hlk hrows lB58
    go_upto_region 15 with (first | (go_at_call 13; refine TD.mono ?_; rintro e w21 ⟨hb21, ⟨s2, c2, L2, V2, cv2, rfl, him2, hu2, hB2, hcv2, hCV2⟩ | ⟨rfl, _⟩⟩; exact absurd hB2 (hcutk.out s2 c2 L2 him2 hu2)) | go_in)
    have hb22 : Below w21.heap.size w21 (w21.alloc (Obj.cells #[.int .i64 0, .int .i64 0, .slice none 0 0] 25 (0, 0))) := below_alloc (Below.refl _ _) _
    have hCGr := Kd.C_below hCGr (hb21.trans (hb22.mono hb21.size))
    have hB := hB.trans ((hb21.trans (hb22.mono hb21.size)).mono hB.size)
    generalize w21.alloc (Obj.cells #[.int .i64 0, .int .i64 0, .slice none 0 0] 25 (0, 0)) = w22 at *
    clear hb21 hb22 TD
    go_upto_region 16 with (first
     | (at_builtin; refine Kd.R_append_rows (Kd.int .u8) (w0 := w) w.heap.size rfl (.const (.slice none 0 0)) (.tmp 112) 27 5 (.int .u8 0) 1 rfl Try.underlying27 info5c rfl (by decide) (by omega) (.slice none 0 0) ([] : List Int) G Ag _ cg (fun _ => True) (fun _ => False) rfl rfl (Kd.R_nil _ _ _ _ _) hCGr (fun _ _ h => h) (fun _ h => h.elim) (fun _ _ => trivial) hB hB.size (by simp; omega) ?_; intro v31 w31 hR31 HB31 hg31 hat31; rw [List.nil_append] at hR31; have tok31 := hR31)
     | (at_builtin; go_loud (refine Kd.R_append (Kd.int .u8) (w0 := w) w.heap.size rfl (.tmp 113) (.tmp 115) 27 5 (.int .u8 0) 1 rfl Try.underlying27 info5c rfl (by decide) (by omega) v31 G wi [.int .u8 wi] (fun _ => True) (fun _ => False) rfl (by first | rfl | (go_simp; done) | (go_simp; rfl)) rfl (fun _ hk => hk.elim) (fun _ _ => trivial) hR31 HB31 HB31.size (by omega) ?_; intro v33 w33 hR33 HB33 hg33 hat33; obtain ⟨A33, c33, rfl, hc33, hC33⟩ := Kd.R_reads (hGwe.out ▸ hR33)))
     | (go_at_call 13; refine (idec.calls A33 c33 Gw w33 hC33 hc33 hGw.out (by rw [hGwe.out, List.length_append]; simp; omega)).mono ?_; rintro e w34 ⟨hb34, ⟨s2, c2, L2, V2, cv2, rfl, him2, hu2, hB2, hcv2, hCV2⟩ | ⟨rfl, _⟩⟩; exact absurd hB2 (hmoreN.out s2 c2 L2 him2 hu2))
     | go_in)
    have HB34 := HB33.trans (hb34.mono HB33.size)
    go_wp2
    refine bodyPost_ret (v := .bool true) (by simp [results, Try.results6, go_sem]) rfl ⟨rfl, ?_⟩
    repeat (first | exact HB34 | with_reducible apply below_drew1 | with_reducible apply pw_below_drewN | apply below_alloc)
 ·
  have e49 := heap_alloc_new w6.drew (Obj.cells #[.int .u8 wi] 5 (0, 0))
  have hb49 : Below w6.drew.heap.size w6.drew (w6.drew.alloc (Obj.cells #[.int .u8 wi] 5 (0, 0))) := below_alloc (Below.refl _ _) _
  refine value_ (v := .slice (some ⟨w6.drew.heap.size, 0, none⟩) 1 1) (w1 := w6.drew.alloc (Obj.cells #[.int .u8 wi] 5 (0, 0))) (by first | rfl | kernel_rfl) rfl ?_ ?_
  ·
   go_simp
  have hHeld := hHeld.trans (hb49.mono hHeld.size)
  generalize w6.drew.heap.size = B49 at e49 ⊢
  generalize w6.drew.alloc (Obj.cells #[.int .u8 wi] 5 (0, 0)) = w48 at e49 hHeld hK ⊢
  refine hK.out _ _ hHeld (fun hHeld => ?_)
  clear hK K
  refine norm_ (a' := ?_) ?_ ?_
  rotate_left
  ·
   show Act.put _ (some 49) _ = _
   simp only [Act.put, List.setIfInBounds_toArray, List.set_cons_zero, List.set_cons_succ, i64_w, i32_w]
   rfl
  refine one_ (i := 5) (N := some 47) (bl 19 327423) rfl rfl (one_of HT_.out (by kernel_rfl)) (by decide) (fun K hK => ?_)
  refine Kd.R_append_rows_step (Kd.int .u8) (w0 := w6) w6.heap.size (by first | rfl | kernel_rfl) (.const (.slice none 0 0)) (.tmp 46) 27 5 (.int .u8 0) 1 rfl Try.underlying27 info5c rfl (by decide) (by omega) (.slice none 0 0) ([] : List Int) G Ag _ cg (fun _ => True) (fun _ => False) rfl (by first | rfl | (go_simp; done) | (go_simp; rfl)) (Kd.R_nil _ _ _ _ _) (Kd.C_below hCG hHeld) (fun _ _ h => h) (fun _ h => h.elim) (fun _ _ => trivial) hHeld hHeld.size (by simp; omega) ?_
  intro v47 w47 hR47 HB47 hg47 hat47
  rw [List.nil_append] at hR47
  have hb47 := (Below.refl _ _).grown hg47 (Nat.le_refl _) (fun _ hk => by simp [Value.ownBlock] at hk)
  have hHeld := hHeld.trans (hb47.mono hHeld.size)
  have e49 := blk_below e49 hb47
  clear HB47 hg47 hat47
  refine hK.out _ _ hHeld (fun hHeld => ?_)
  clear hK K
  refine norm_ (a' := ?_) ?_ ?_
  rotate_left
  ·
   show Act.put _ (some 47) _ = _
   simp only [Act.put, List.setIfInBounds_toArray, List.set_cons_zero, List.set_cons_succ, i64_w, i32_w]
   rfl
  refine one_ (i := 8) (N := some 50) (bl 19 327679) rfl rfl (one_of HT_.out (by kernel_rfl)) (by decide) (fun K hK => ?_)
  have hC49 : Kd.C (Kd.int .u8) _ (some ⟨B49, 0, none⟩) [wi].length [wi] := one8 e49
  refine Kd.R_append_rows_step (Kd.int .u8) (w0 := w6) w6.heap.size (by first | rfl | kernel_rfl) (.tmp 47) (.tmp 49) 27 5 (.int .u8 0) 1 rfl Try.underlying27 info5c rfl (by decide) (by omega) v47 G [wi] (some ⟨B49, 0, none⟩) _ 1 (fun _ => True) (fun _ => False) rfl (by first | rfl | (go_simp; done) | (go_simp; rfl)) hR47 hC49 (fun _ _ h => h) (fun _ h => h.elim) (fun _ _ => trivial) hHeld hHeld.size (by simp; omega) ?_
  intro v50 w50 hR50 HB50 hg50 hat50
  rw [← hGwe.out] at hR50
  have hb50 : Below w6.heap.size w6 w50 := by
   have := hg50
   exact hHeld.grown hg50 hHeld.size (fun k_ hk => Kd.R_base hR47 k_ hk)
  have hHeld := hb50
  refine hK.out _ _ hHeld (fun hHeld => ?_)
  clear hK K
  refine norm_ (a' := ?_) ?_ ?_
  rotate_left
  ·
   show Act.put _ (some 50) _ = _
   simp only [Act.put, List.setIfInBounds_toArray, List.set_cons_zero, List.set_cons_succ, i64_w, i32_w]
   rfl
  refine one_ (i := 16) (N := some 58) (bl 19 393215) rfl rfl (one_of HT_.out (by kernel_rfl)) (by decide) (fun K hK => ?_)
  obtain ⟨A50, c50, rfl, hc50, hC50⟩ := Kd.R_reads hR50
  have e58 := heap_alloc_new w50 (Obj.cells #[.slice (some ⟨gt, 0, none⟩) G.length ct, .slice Ag k.toNat cg, .slice A50 Gw.length c50, .slice Am (G.length - m.toNat) (cg - m.toNat)] 27 (0, 0))
  have hb58 : Below w50.heap.size w50 (w50.alloc (Obj.cells #[.slice (some ⟨gt, 0, none⟩) G.length ct, .slice Ag k.toNat cg, .slice A50 Gw.length c50, .slice Am (G.length - m.toNat) (cg - m.toNat)] 27 (0, 0))) := below_alloc (Below.refl _ _) _
  refine value_ (v := .slice (some ⟨w50.heap.size, 0, none⟩) 4 4) (w1 := w50.alloc (Obj.cells #[.slice (some ⟨gt, 0, none⟩) G.length ct, .slice Ag k.toNat cg, .slice A50 Gw.length c50, .slice Am (G.length - m.toNat) (cg - m.toNat)] 27 (0, 0))) (by first | rfl | kernel_rfl) rfl ?_ ?_
  ·
   go_simp
  have hHeld := hHeld.trans (hb58.mono hHeld.size)
  have hrow3 : Row8 w50 (.slice A50 Gw.length c50) Gw := ⟨A50, c50, rfl, hc50, hC50⟩
  have hrow3 := hrow3.below hb58
  clear hC50 hc50
  generalize w50.heap.size = B58 at e58 ⊢
  generalize w50.alloc (Obj.cells #[.slice (some ⟨gt, 0, none⟩) G.length ct, .slice Ag k.toNat cg, .slice A50 Gw.length c50, .slice Am (G.length - m.toNat) (cg - m.toNat)] 27 (0, 0)) = w58 at e58 hrow3 hHeld hK ⊢
  refine hK.out _ _ hHeld (fun hHeld => ?_)
  clear hK K
  refine norm_ (a' := ?_) ?_ ?_
  rotate_left
  ·
   show Act.put _ (some 58) _ = _
   simp only [Act.put, List.setIfInBounds_toArray, List.set_cons_zero, List.set_cons_succ, i64_w, i32_w]
   rfl
  refine pure_ (i := 17) (N := some 59) (v := ?_) (a' := ?_) (bl 19 524287) rfl rfl (any_of HT_.out (by kernel_rfl)) (fun _ _ _ h => h) (Or.inl ⟨by first | rfl | kernel_rfl, ?_⟩) ?_ ?_
  rotate_left
  ·
   intro w'
   go_simp
   with_reducible rfl
  rotate_left
  ·
   simp only [Act.put, List.setIfInBounds_toArray, List.set_cons_zero, List.set_cons_succ, i64_w, i32_w]
   rfl
  refine done_ (done_of HT_.out (by kernel_rfl)) ?_
  clear HT_ HW_
  have HB58 := HB6.trans (hHeld.mono HB6.size)
  have hrow1 := hrow1.below hHeld
  have hCk := hCk.below hHeld
  have hCm := hCm.below hHeld
  have hCG := Kd.C_below hCG hHeld
  have hGw : ∀ x ∈ Gw, Byte x := fun x hx => by
   rw [hGwe.out] at hx
   rcases List.mem_append.mp hx with hx | hx
   ·
    exact hGb.out x hx
   ·
    obtain rfl := List.mem_singleton.mp hx
    exact ⟨hwi.1, by omega⟩
  have hrows : ∀ i : Nat, i < 4 → ∃ v b, w58.cell? ⟨B58, i, none⟩ = some v ∧ Row8 w58 v b ∧ (∀ x ∈ b, Byte x) ∧ b.length ≤ 35184372088816 := by
   intro i hi
   have h4 : i = 0 ∨ i = 1 ∨ i = 2 ∨ i = 3 := by omega
   rcases h4 with rfl | rfl | rfl | rfl
   ·
    exact ⟨_, _, (blk_cell e58 0).trans rfl, hrow1, hGbt.out, by rw [List.length_set]; omega⟩
   ·
    exact ⟨_, _, (blk_cell e58 1).trans rfl, hCk, fun x hx => hGb.out x (List.mem_of_mem_take hx), by rw [List.length_take]; omega⟩
   ·
    exact ⟨_, _, (blk_cell e58 2).trans rfl, hrow3, hGw, by rw [hGwe.out, List.length_append]; simp; omega⟩
   ·
    exact ⟨_, _, (blk_cell e58 3).trans rfl, hCm, fun x hx => hGb.out x (List.mem_of_mem_drop hx), by rw [List.length_drop]; omega⟩
  replace hrows := Aside0.mk hrows
  replace hGw := Aside0.mk hGw
  have lB58 : B58 < w58.heap.size := blk_lt e58
  clear wcu hm2 e58 hrow1 hCm hrow3 hHeld hR47 hC49 e49 hR50 hb50
  go_wp2
  go_loopw [60] (fun v60 wr => ∃ i : Nat, v60 = .int .i64 i ∧ i ≤ 4 ∧ Below w58.heap.size w58 wr) (fun v60 _ => 4 - (intOf v60).toNat)
  case atStart => exact ⟨0, rfl, by omega, (by repeat (first | exact Below.refl _ _ | with_reducible apply below_drew1 | with_reducible apply pw_below_drewN))⟩
  case round =>
   obtain ⟨i, rfl, hi, hB⟩ := hrel
   by_cases h4 : i < 4
   ·
    have hi0 : (i : Int) < 4 := by omega
    have hi1 : (0 : Int) ≤ (i : Int) := by omega
    obtain ⟨v, b, hv, hrow, hbb, hbl⟩ := hrows.out i h4
    obtain ⟨Ab, cb, rfl, hcb, hCb⟩ := hrow
    have hvr := (hB.cell (by exact lB58)).trans hv
    have hCb := Kd.C_below hCb hB
    go_upto_region 10 with go_in
    have TD := idec.calls Ab cb b wr hCb hcb hbb hbl
    clear hv hvr hbb hbl
    by_cases hno : NoIm b
    ·
     go_upto_region 11 with (first | (go_at_call 13; refine TD.mono ?_; rintro e w11 ⟨hb11, ⟨s2, c2, L2, V2, cv2, rfl, him2, hu2, hB2, hcv2, hCV2⟩ | ⟨rfl, _⟩⟩; exact absurd hB2 (hno s2 c2 L2 him2 hu2)) | go_in)
     have e18 := heap_alloc_new w11 (Obj.cells #[.int .i64 0, .int .i64 0, .slice none 0 0] 25 (0, 0))
     have hb12 : Below w11.heap.size w11 (w11.alloc (Obj.cells #[.int .i64 0, .int .i64 0, .slice none 0 0] 25 (0, 0))) := below_alloc (Below.refl _ _) _
     have hB12 := hB.trans ((hb11.trans (hb12.mono hb11.size)).mono hB.size)
     have hCb := Kd.C_below hCb (hb11.trans (hb12.mono hb11.size))
     generalize w11.alloc (Obj.cells #[.int .i64 0, .int .i64 0, .slice none 0 0] 25 (0, 0)) = w12 at *
     generalize w11.heap.size = B18 at *
     clear hb11 hb12 TD
     have lB18 : B18 < w12.heap.size := blk_lt e18
     have x0 : w12.cell? ⟨B18, 0, none⟩ = some (.int .i64 0) := (blk_cell e18 0).trans rfl
     have x1 : w12.cell? ⟨B18, 1, none⟩ = some (.int .i64 0) := (blk_cell e18 1).trans rfl
     have x2 : w12.cell? ⟨B18, 2, none⟩ = some (.slice none 0 0) := (blk_cell e18 2).trans rfl
     clear hno
     refine start_ (n := 34) (S := fun w' => Below w12.heap.size w12 w') (ds := []) #[false, false, false, false, false, false, false, false, false, false, false, false, false, false, false, false, false, false, false, false, false, false, false, false, false, false, false, false, false, false, false, false, false, false] (by kernel_rfl) rfl rfl (below_drew (Below.refl _ _)) (fun hHeld => ?_); refine with_tabW imbr.tab11 imbr.bits11 (fun HT_ HW_ => ?_)
     refine pure_ (i := 0) (N := some 69) (v := ?_) (a' := ?_) (bl 34 1) rfl rfl (any_of HT_.out (by kernel_rfl)) (fun _ _ _ h => h) (Or.inl ⟨by first | rfl | kernel_rfl, ?_⟩) ?_ ?_
     rotate_left
     ·
      intro w'
      go_simp
      with_reducible rfl
     rotate_left
     ·
      simp only [Act.put, List.setIfInBounds_toArray, List.set_cons_zero, List.set_cons_succ, i64_w, i32_w]
      rfl
     refine pure_ (i := 1) (N := some 70) (v := ?_) (a' := ?_) (bl 34 3) rfl rfl (any_of HT_.out (by kernel_rfl)) (fun _ _ _ h => h) (Or.inl ⟨by first | rfl | kernel_rfl, ?_⟩) ?_ ?_
     rotate_left
     ·
      intro w'
      go_simp
      with_reducible rfl
     rotate_left
     ·
      simp only [Act.put, List.setIfInBounds_toArray, List.set_cons_zero, List.set_cons_succ, i64_w, i32_w]
      rfl
     refine pure_ (i := 2) (N := some 71) (v := undef) (a' := ?_) (bl 34 7) rfl rfl (any_of HT_.out (by kernel_rfl)) (fun _ _ _ h => h) (Or.inr ⟨by first | rfl | kernel_rfl, rfl⟩) ?_ ?_
     rotate_left
     ·
      simp only [Act.put, List.setIfInBounds_toArray, List.set_cons_zero, List.set_cons_succ, i64_w, i32_w]
      rfl
     refine pure_ (i := 3) (N := some 72) (v := undef) (a' := ?_) (bl 34 15) rfl rfl (any_of HT_.out (by kernel_rfl)) (fun _ _ _ h => h) (Or.inr ⟨by first | rfl | kernel_rfl, rfl⟩) ?_ ?_
     rotate_left
     ·
      simp only [Act.put, List.setIfInBounds_toArray, List.set_cons_zero, List.set_cons_succ, i64_w, i32_w]
      rfl
     refine pure_ (i := 4) (N := some 73) (v := undef) (a' := ?_) (bl 34 31) rfl rfl (any_of HT_.out (by kernel_rfl)) (fun _ _ _ h => h) (Or.inr ⟨by first | rfl | kernel_rfl, rfl⟩) ?_ ?_
     rotate_left
     ·
      simp only [Act.put, List.setIfInBounds_toArray, List.set_cons_zero, List.set_cons_succ, i64_w, i32_w]
      rfl
     refine pure_ (i := 5) (N := some 74) (v := undef) (a' := ?_) (bl 34 63) rfl rfl (any_of HT_.out (by kernel_rfl)) (fun _ _ _ h => h) (Or.inr ⟨by first | rfl | kernel_rfl, rfl⟩) ?_ ?_
     rotate_left
     ·
      simp only [Act.put, List.setIfInBounds_toArray, List.set_cons_zero, List.set_cons_succ, i64_w, i32_w]
      rfl
     refine pure_ (i := 6) (N := some 75) (v := undef) (a' := ?_) (bl 34 127) rfl rfl (any_of HT_.out (by kernel_rfl)) (fun _ _ _ h => h) (Or.inr ⟨by first | rfl | kernel_rfl, rfl⟩) ?_ ?_
     rotate_left
     ·
      simp only [Act.put, List.setIfInBounds_toArray, List.set_cons_zero, List.set_cons_succ, i64_w, i32_w]
      rfl
     refine pure_ (i := 7) (N := some 76) (v := undef) (a' := ?_) (bl 34 255) rfl rfl (any_of HT_.out (by kernel_rfl)) (fun _ _ _ h => h) (Or.inr ⟨by first | rfl | kernel_rfl, rfl⟩) ?_ ?_
     rotate_left
     ·
      simp only [Act.put, List.setIfInBounds_toArray, List.set_cons_zero, List.set_cons_succ, i64_w, i32_w]
      rfl
     refine pure_ (i := 8) (N := some 77) (v := undef) (a' := ?_) (bl 34 511) rfl rfl (any_of HT_.out (by kernel_rfl)) (fun _ _ _ h => h) (Or.inr ⟨by first | rfl | kernel_rfl, rfl⟩) ?_ ?_
     rotate_left
     ·
      simp only [Act.put, List.setIfInBounds_toArray, List.set_cons_zero, List.set_cons_succ, i64_w, i32_w]
      rfl
     refine pure_ (i := 9) (N := some 78) (v := undef) (a' := ?_) (bl 34 1023) rfl rfl (any_of HT_.out (by kernel_rfl)) (fun _ _ _ h => h) (Or.inr ⟨by first | rfl | kernel_rfl, rfl⟩) ?_ ?_
     rotate_left
     ·
      simp only [Act.put, List.setIfInBounds_toArray, List.set_cons_zero, List.set_cons_succ, i64_w, i32_w]
      rfl
     refine pure_ (i := 10) (N := some 79) (v := undef) (a' := ?_) (bl 34 2047) rfl rfl (any_of HT_.out (by kernel_rfl)) (fun _ _ _ h => h) (Or.inr ⟨by first | rfl | kernel_rfl, rfl⟩) ?_ ?_
     rotate_left
     ·
      simp only [Act.put, List.setIfInBounds_toArray, List.set_cons_zero, List.set_cons_succ, i64_w, i32_w]
      rfl
     refine pure_ (i := 11) (N := some 80) (v := undef) (a' := ?_) (bl 34 4095) rfl rfl (any_of HT_.out (by kernel_rfl)) (fun _ _ _ h => h) (Or.inr ⟨by first | rfl | kernel_rfl, rfl⟩) ?_ ?_
     rotate_left
     ·
      simp only [Act.put, List.setIfInBounds_toArray, List.set_cons_zero, List.set_cons_succ, i64_w, i32_w]
      rfl
     refine pure_ (i := 12) (N := some 81) (v := undef) (a' := ?_) (bl 34 8191) rfl rfl (any_of HT_.out (by kernel_rfl)) (fun _ _ _ h => h) (Or.inr ⟨by first | rfl | kernel_rfl, rfl⟩) ?_ ?_
     rotate_left
     ·
      simp only [Act.put, List.setIfInBounds_toArray, List.set_cons_zero, List.set_cons_succ, i64_w, i32_w]
      rfl
     refine pure_ (i := 13) (N := some 82) (v := ?_) (a' := ?_) (bl 34 16383) rfl rfl (any_of HT_.out (by kernel_rfl)) (fun _ _ _ h => h) (Or.inl ⟨by first | rfl | kernel_rfl, ?_⟩) ?_ ?_
     rotate_left
     ·
      intro w'
      go_simp
      with_reducible rfl
     rotate_left
     ·
      simp only [Act.put, List.setIfInBounds_toArray, List.set_cons_zero, List.set_cons_succ, i64_w, i32_w]
      rfl
     refine pure_ (i := 14) (N := some 83) (v := ?_) (a' := ?_) (bl 34 32767) rfl rfl (any_of HT_.out (by kernel_rfl)) (fun _ _ _ h => h) (Or.inl ⟨by first | rfl | kernel_rfl, ?_⟩) ?_ ?_
     rotate_left
     ·
      intro w'
      go_simp
      with_reducible rfl
     rotate_left
     ·
      simp only [Act.put, List.setIfInBounds_toArray, List.set_cons_zero, List.set_cons_succ, i64_w, i32_w]
      rfl
     refine pure_ (i := 15) (N := some 84) (v := ?_) (a' := ?_) (bl 34 65535) rfl rfl (any_of HT_.out (by kernel_rfl)) (fun _ _ _ h => h) (Or.inl ⟨by first | rfl | kernel_rfl, ?_⟩) ?_ ?_
     rotate_left
     ·
      intro w'
      go_simp
      with_reducible rfl
     rotate_left
     ·
      simp only [Act.put, List.setIfInBounds_toArray, List.set_cons_zero, List.set_cons_succ, i64_w, i32_w]
      rfl
     refine pure_ (i := 16) (N := some 85) (v := ?_) (a' := ?_) (bl 34 131071) rfl rfl (any_of HT_.out (by kernel_rfl)) (fun _ _ _ h => h) (Or.inl ⟨by first | rfl | kernel_rfl, ?_⟩) ?_ ?_
     rotate_left
     ·
      intro w'
      go_simp
      with_reducible rfl
     rotate_left
     ·
      simp only [Act.put, List.setIfInBounds_toArray, List.set_cons_zero, List.set_cons_succ, i64_w, i32_w]
      rfl
     refine pure_ (i := 17) (N := some 86) (v := ?_) (a' := ?_) (bl 34 262143) rfl rfl (any_of HT_.out (by kernel_rfl)) (fun _ _ _ h => h) (Or.inl ⟨by first | rfl | kernel_rfl, ?_⟩) ?_ ?_
     rotate_left
     ·
      intro w'
      go_simp
      with_reducible rfl
     rotate_left
     ·
      simp only [Act.put, List.setIfInBounds_toArray, List.set_cons_zero, List.set_cons_succ, i64_w, i32_w]
      rfl
     refine pure_ (i := 18) (N := some 87) (v := ?_) (a' := ?_) (bl 34 524287) rfl rfl (any_of HT_.out (by kernel_rfl)) (fun _ _ _ h => h) (Or.inl ⟨by first | rfl | kernel_rfl, ?_⟩) ?_ ?_
     rotate_left
     ·
      intro w'
      go_simp
      with_reducible rfl
     rotate_left
     ·
      simp only [Act.put, List.setIfInBounds_toArray, List.set_cons_zero, List.set_cons_succ, i64_w, i32_w]
      rfl
     refine take_ (i := 19) (N := some 88) (v := ?_) (a' := ?_) (bl 34 1048575) rfl rfl (take_ofW HT_.out HW_.out (by kernel_rfl)) (fun _ _ _ h => h) (Or.inl ⟨by first | rfl | kernel_rfl, ?_⟩) hHeld ?_ ?_
     rotate_left
     ·
      intro w' s0
      have z0 := (s0.cell (by exact lB18)).trans x0
      have z1 := (s0.cell (by exact lB18)).trans x1
      have z2 := (s0.cell (by exact lB18)).trans x2
      go_simp
      with_reducible rfl
     rotate_left
     ·
      simp only [Act.put, List.setIfInBounds_toArray, List.set_cons_zero, List.set_cons_succ, i64_w, i32_w]
      rfl
     refine pure_ (i := 20) (N := some 89) (v := ?_) (a' := ?_) (bl 34 2097151) rfl rfl (any_of HT_.out (by kernel_rfl)) (fun _ _ _ h => h) (Or.inl ⟨by first | rfl | kernel_rfl, ?_⟩) ?_ ?_
     rotate_left
     ·
      intro w'
      go_simp
      with_reducible rfl
     rotate_left
     ·
      simp only [Act.put, List.setIfInBounds_toArray, List.set_cons_zero, List.set_cons_succ, i64_w, i32_w]
      rfl
     refine pure_ (i := 21) (N := some 90) (v := ?_) (a' := ?_) (bl 34 4194303) rfl rfl (any_of HT_.out (by kernel_rfl)) (fun _ _ _ h => h) (Or.inl ⟨by first | rfl | kernel_rfl, ?_⟩) ?_ ?_
     rotate_left
     ·
      intro w'
      go_simp
      with_reducible rfl
     rotate_left
     ·
      simp only [Act.put, List.setIfInBounds_toArray, List.set_cons_zero, List.set_cons_succ, i64_w, i32_w]
      rfl
     refine pure_ (i := 22) (N := some 91) (v := ?_) (a' := ?_) (bl 34 8388607) rfl rfl (any_of HT_.out (by kernel_rfl)) (fun _ _ _ h => h) (Or.inl ⟨by first | rfl | kernel_rfl, ?_⟩) ?_ ?_
     rotate_left
     ·
      intro w'
      go_simp
      with_reducible rfl
     rotate_left
     ·
      simp only [Act.put, List.setIfInBounds_toArray, List.set_cons_zero, List.set_cons_succ, i64_w, i32_w]
      rfl
     refine take_ (i := 23) (N := some 92) (v := ?_) (a' := ?_) (bl 34 16777215) rfl rfl (take_ofW HT_.out HW_.out (by kernel_rfl)) (fun _ _ _ h => h) (Or.inl ⟨by first | rfl | kernel_rfl, ?_⟩) hHeld ?_ ?_
     rotate_left
     ·
      intro w' s0
      have z0 := (s0.cell (by exact lB18)).trans x0
      have z1 := (s0.cell (by exact lB18)).trans x1
      have z2 := (s0.cell (by exact lB18)).trans x2
      go_simp
      with_reducible rfl
     rotate_left
     ·
      simp only [Act.put, List.setIfInBounds_toArray, List.set_cons_zero, List.set_cons_succ, i64_w, i32_w]
      rfl
     refine pure_ (i := 24) (N := some 93) (v := ?_) (a' := ?_) (bl 34 33554431) rfl rfl (any_of HT_.out (by kernel_rfl)) (fun _ _ _ h => h) (Or.inl ⟨by first | rfl | kernel_rfl, ?_⟩) ?_ ?_
     rotate_left
     ·
      intro w'
      go_simp
      with_reducible rfl
     rotate_left
     ·
      simp only [Act.put, List.setIfInBounds_toArray, List.set_cons_zero, List.set_cons_succ, i64_w, i32_w]
      rfl
     refine pure_ (i := 25) (N := some 94) (v := ?_) (a' := ?_) (bl 34 67108863) rfl rfl (any_of HT_.out (by kernel_rfl)) (fun _ _ _ h => h) (Or.inl ⟨by first | rfl | kernel_rfl, ?_⟩) ?_ ?_
     rotate_left
     ·
      intro w'
      go_simp
      with_reducible rfl
     rotate_left
     ·
      simp only [Act.put, List.setIfInBounds_toArray, List.set_cons_zero, List.set_cons_succ, i64_w, i32_w]
      rfl
     refine pure_ (i := 26) (N := some 95) (v := ?_) (a' := ?_) (bl 34 134217727) rfl rfl (any_of HT_.out (by kernel_rfl)) (fun _ _ _ h => h) (Or.inl ⟨by first | rfl | kernel_rfl, ?_⟩) ?_ ?_
     rotate_left
     ·
      intro w'
      go_simp
      with_reducible rfl
     rotate_left
     ·
      simp only [Act.put, List.setIfInBounds_toArray, List.set_cons_zero, List.set_cons_succ, i64_w, i32_w]
      rfl
     refine pure_ (i := 27) (N := some 96) (v := ?_) (a' := ?_) (bl 34 268435455) rfl rfl (any_of HT_.out (by kernel_rfl)) (fun _ _ _ h => h) (Or.inl ⟨by first | rfl | kernel_rfl, ?_⟩) ?_ ?_
     rotate_left
     ·
      intro w'
      go_simp
      with_reducible rfl
     rotate_left
     ·
      simp only [Act.put, List.setIfInBounds_toArray, List.set_cons_zero, List.set_cons_succ, i64_w, i32_w]
      rfl
     refine take_ (i := 28) (N := some 97) (v := ?_) (a' := ?_) (bl 34 536870911) rfl rfl (take_ofW HT_.out HW_.out (by kernel_rfl)) (fun _ _ _ h => h) (Or.inl ⟨by first | rfl | kernel_rfl, ?_⟩) hHeld ?_ ?_
     rotate_left
     ·
      intro w' s0
      have z0 := (s0.cell (by exact lB18)).trans x0
      have z1 := (s0.cell (by exact lB18)).trans x1
      have z2 := (s0.cell (by exact lB18)).trans x2
      go_simp
      with_reducible rfl
     rotate_left
     ·
      simp only [Act.put, List.setIfInBounds_toArray, List.set_cons_zero, List.set_cons_succ, i64_w, i32_w]
      rfl
     refine pure_ (i := 29) (N := some 98) (v := ?_) (a' := ?_) (bl 34 1073741823) rfl rfl (any_of HT_.out (by kernel_rfl)) (fun _ _ _ h => h) (Or.inl ⟨by first | rfl | kernel_rfl, ?_⟩) ?_ ?_
     rotate_left
     ·
      intro w'
      go_simp
      with_reducible rfl
     rotate_left
     ·
      simp only [Act.put, List.setIfInBounds_toArray, List.set_cons_zero, List.set_cons_succ, i64_w, i32_w]
      rfl
     refine pure_ (i := 30) (N := some 99) (v := ?_) (a' := ?_) (bl 34 2147483647) rfl rfl (any_of HT_.out (by kernel_rfl)) (fun _ _ _ h => h) (Or.inl ⟨by first | rfl | kernel_rfl, ?_⟩) ?_ ?_
     rotate_left
     ·
      intro w'
      go_simp
      with_reducible rfl
     rotate_left
     ·
      simp only [Act.put, List.setIfInBounds_toArray, List.set_cons_zero, List.set_cons_succ, i64_w, i32_w]
      rfl
     refine pure_ (i := 31) (N := some 100) (v := ?_) (a' := ?_) (bl 34 4294967295) rfl rfl (any_of HT_.out (by kernel_rfl)) (fun _ _ _ h => h) (Or.inl ⟨by first | rfl | kernel_rfl, ?_⟩) ?_ ?_
     rotate_left
     ·
      intro w'
      go_simp
      with_reducible rfl
     rotate_left
     ·
      simp only [Act.put, List.setIfInBounds_toArray, List.set_cons_zero, List.set_cons_succ, i64_w, i32_w]
      rfl
     refine pure_ (i := 32) (N := some 101) (v := ?_) (a' := ?_) (bl 34 8589934591) rfl rfl (any_of HT_.out (by kernel_rfl)) (fun _ _ _ h => h) (Or.inl ⟨by first | rfl | kernel_rfl, ?_⟩) ?_ ?_
     rotate_left
     ·
      intro w'
      go_simp
      with_reducible rfl
     rotate_left
     ·
      simp only [Act.put, List.setIfInBounds_toArray, List.set_cons_zero, List.set_cons_succ, i64_w, i32_w]
      rfl
     refine pure_ (i := 33) (N := some 102) (v := ?_) (a' := ?_) (bl 34 17179869183) rfl rfl (any_of HT_.out (by kernel_rfl)) (fun _ _ _ h => h) (Or.inl ⟨by first | rfl | kernel_rfl, ?_⟩) ?_ ?_
     rotate_left
     ·
      intro w'
      go_simp
      with_reducible rfl
     rotate_left
     ·
      simp only [Act.put, List.setIfInBounds_toArray, List.set_cons_zero, List.set_cons_succ, i64_w, i32_w]
      rfl
     refine done_ (done_of HT_.out (by kernel_rfl)) ?_
     clear HT_ HW_
     have hB := hB12.trans (hHeld.mono hB12.size)
     go_wp2
     go_roundw
     case rel => exact ⟨i + 1, by first | rfl | go_num, by omega, (by repeat (first | exact hB | with_reducible apply below_drew1 | with_reducible apply pw_below_drewN))⟩
     case measure => simp [intOf]; omega
    ·
     go_upto_region 11 with (first | (go_at_call 13; refine TD.mono ?_; rintro e w11 ⟨hb11, ⟨s2, c2, L2, V2, cv2, rfl, him2, hu2, hB2, hcv2, hCV2⟩ | ⟨rfl, hno2⟩⟩; rotate_left; exact absurd hno2 hno) | go_in)
     have e18 := heap_alloc_new w11 (Obj.cells #[.int .i64 s2, .int .i64 c2, .slice V2 L2.length cv2] 25 (0, 0))
     have hb12 : Below w11.heap.size w11 (w11.alloc (Obj.cells #[.int .i64 s2, .int .i64 c2, .slice V2 L2.length cv2] 25 (0, 0))) := below_alloc (Below.refl _ _) _
     have hCV2 := Kd.C_below hCV2 hb12
     have hB12 := hB.trans ((hb11.trans (hb12.mono hb11.size)).mono hB.size)
     have hCb := Kd.C_below hCb (hb11.trans (hb12.mono hb11.size))
     generalize w11.alloc (Obj.cells #[.int .i64 s2, .int .i64 c2, .slice V2 L2.length cv2] 25 (0, 0)) = w12 at *
     generalize w11.heap.size = B18 at *
     clear hb11 hb12 TD
     have lB18 : B18 < w12.heap.size := blk_lt e18
     have x0 : w12.cell? ⟨B18, 0, none⟩ = some (.int .i64 s2) := (blk_cell e18 0).trans rfl
     have x1 : w12.cell? ⟨B18, 1, none⟩ = some (.int .i64 c2) := (blk_cell e18 1).trans rfl
     have x2 : w12.cell? ⟨B18, 2, none⟩ = some (.slice V2 L2.length cv2) := (blk_cell e18 2).trans rfl
     clear hno
     subst hB2
     obtain ⟨kb2, hkb2⟩ : ∃ k, tautochronelaw21_bytes.f k s2 c2 L2 = some (imB s2 c2 L2) := Ev.rounds (lbytes_ev s2 c2 L2 him2)
     replace him2 := Aside0.mk him2
     replace hu2 := Aside0.mk hu2
     refine start_ (n := 34) (S := fun w' => Below w12.heap.size w12 w') (ds := []) #[false, false, false, false, false, false, false, false, false, false, false, false, false, false, false, false, false, false, false, false, false, false, false, false, false, false, false, false, false, false, false, false, false, false] (by kernel_rfl) rfl rfl (below_drew (Below.refl _ _)) (fun hHeld => ?_); refine with_tabW imbr.tab11 imbr.bits11 (fun HT_ HW_ => ?_)
     refine pure_ (i := 0) (N := some 69) (v := ?_) (a' := ?_) (bl 34 1) rfl rfl (any_of HT_.out (by kernel_rfl)) (fun _ _ _ h => h) (Or.inl ⟨by first | rfl | kernel_rfl, ?_⟩) ?_ ?_
     rotate_left
     ·
      intro w'
      go_simp
      with_reducible rfl
     rotate_left
     ·
      simp only [Act.put, List.setIfInBounds_toArray, List.set_cons_zero, List.set_cons_succ, i64_w, i32_w]
      rfl
     refine pure_ (i := 1) (N := some 70) (v := ?_) (a' := ?_) (bl 34 3) rfl rfl (any_of HT_.out (by kernel_rfl)) (fun _ _ _ h => h) (Or.inl ⟨by first | rfl | kernel_rfl, ?_⟩) ?_ ?_
     rotate_left
     ·
      intro w'
      go_simp
      with_reducible rfl
     rotate_left
     ·
      simp only [Act.put, List.setIfInBounds_toArray, List.set_cons_zero, List.set_cons_succ, i64_w, i32_w]
      rfl
     refine take_ (i := 2) (N := some 71) (v := ?_) (a' := ?_) (bl 34 7) rfl rfl (take_ofW HT_.out HW_.out (by kernel_rfl)) (fun _ _ _ h => h) (Or.inl ⟨by first | rfl | kernel_rfl, ?_⟩) hHeld ?_ ?_
     rotate_left
     ·
      intro w' s0
      have z0 := (s0.cell (by exact lB18)).trans x0
      have z1 := (s0.cell (by exact lB18)).trans x1
      have z2 := (s0.cell (by exact lB18)).trans x2
      go_simp
      with_reducible rfl
     rotate_left
     ·
      simp only [Act.put, List.setIfInBounds_toArray, List.set_cons_zero, List.set_cons_succ, i64_w, i32_w]
      rfl
     refine one_ (i := 3) (N := some 72) (bl 34 15) rfl rfl (one_of HT_.out (by kernel_rfl)) (by decide) (fun K hK => ?_)
     refine goes_ Try.func11 (by kernel_rfl) rfl #[.agg #[.int .i64 s2, .int .i64 c2, .slice V2 L2.length cv2]] (by first | rfl | kernel_rfl) rfl rfl (by first | rfl | kernel_rfl) ?_
     refine (lmayT.calls s2 c2 V2 cv2 L2 _ (Kd.C_below hCV2 hHeld) hcv2 him2.out hu2.out).mono ?_
     rintro e w8 ⟨rfl, hb8⟩
     have hHeld := hHeld.trans (hb8.mono hHeld.size)
     refine ⟨_, rfl, hK.out _ _ hHeld (fun hHeld => ?_)⟩
     clear hK K
     refine norm_ (a' := ?_) ?_ ?_
     rotate_left
     ·
      show Act.put _ (some 72) _ = _
      simp only [Act.put, List.setIfInBounds_toArray, List.set_cons_zero, List.set_cons_succ, i64_w, i32_w]
      rfl
     refine pure_ (i := 4) (N := some 73) (v := ?_) (a' := ?_) (bl 34 31) rfl rfl (any_of HT_.out (by kernel_rfl)) (fun _ _ _ h => h) (Or.inl ⟨by first | rfl | kernel_rfl, ?_⟩) ?_ ?_
     rotate_left
     ·
      intro w'
      go_simp
      with_reducible rfl
     rotate_left
     ·
      simp only [Act.put, List.setIfInBounds_toArray, List.set_cons_zero, List.set_cons_succ, i64_w, i32_w]
      rfl
     refine pure_ (i := 5) (N := some 74) (v := ?_) (a' := ?_) (bl 34 63) rfl rfl (any_of HT_.out (by kernel_rfl)) (fun _ _ _ h => h) (Or.inl ⟨by first | rfl | kernel_rfl, ?_⟩) ?_ ?_
     rotate_left
     ·
      intro w'
      go_simp
      with_reducible rfl
     rotate_left
     ·
      simp only [Act.put, List.setIfInBounds_toArray, List.set_cons_zero, List.set_cons_succ, i64_w, i32_w]
      rfl
     refine take_ (i := 6) (N := some 75) (v := ?_) (a' := ?_) (bl 34 127) rfl rfl (take_ofW HT_.out HW_.out (by kernel_rfl)) (fun _ _ _ h => h) (Or.inl ⟨by first | rfl | kernel_rfl, ?_⟩) hHeld ?_ ?_
     rotate_left
     ·
      intro w' s0
      have z0 := (s0.cell (by exact lB18)).trans x0
      have z1 := (s0.cell (by exact lB18)).trans x1
      have z2 := (s0.cell (by exact lB18)).trans x2
      go_simp
      with_reducible rfl
     rotate_left
     ·
      simp only [Act.put, List.setIfInBounds_toArray, List.set_cons_zero, List.set_cons_succ, i64_w, i32_w]
      rfl
     refine pure_ (i := 9) (N := some 78) (v := ?_) (a' := ?_) (bl 34 639) rfl rfl (any_of HT_.out (by kernel_rfl)) (fun _ _ _ h => h) (Or.inl ⟨by first | rfl | kernel_rfl, ?_⟩) ?_ ?_
     rotate_left
     ·
      intro w'
      go_simp
      with_reducible rfl
     rotate_left
     ·
      simp only [Act.put, List.setIfInBounds_toArray, List.set_cons_zero, List.set_cons_succ, i64_w, i32_w]
      rfl
     refine take_ (i := 10) (N := some 79) (v := ?_) (a' := ?_) (bl 34 1663) rfl rfl (take_ofW HT_.out HW_.out (by kernel_rfl)) (fun _ _ _ h => h) (Or.inl ⟨by first | rfl | kernel_rfl, ?_⟩) hHeld ?_ ?_
     rotate_left
     ·
      intro w' s0
      have zc := Kd.C_string (P := Try.prog) (c := cb) Try.underlying27 Try.underlying5 Try.underlying9 (Kd.C_below hCb s0)
      go_simp
      with_reducible rfl
     rotate_left
     ·
      simp only [Act.put, List.setIfInBounds_toArray, List.set_cons_zero, List.set_cons_succ, i64_w, i32_w]
      rfl
     refine one_ (i := 7) (N := some 76) (bl 34 1791) rfl rfl (one_of HT_.out (by kernel_rfl)) (by decide) (fun K hK => ?_)
     refine goes_ Try.func14 (by kernel_rfl) rfl #[.agg #[.int .i64 s2, .int .i64 c2, .slice V2 L2.length cv2]] (by first | rfl | kernel_rfl) rfl rfl (by first | rfl | kernel_rfl) ?_
     refine (tautochronelaw21_bytes.calls kb2 s2 c2 V2 cv2 L2 (imB s2 c2 L2) _ (Kd.C_below hCV2 hHeld) hcv2 hkb2).mono ?_
     rintro e w8 ⟨vq, rfl, hRq, hb8⟩
     obtain ⟨Uq, cuq, rfl, hcuq, hCUq⟩ := Kd.R_reads hRq
     clear hRq
     have hHeld := hHeld.trans (hb8.mono hHeld.size)
     refine ⟨_, rfl, hK.out _ _ hHeld (fun hHeld => ?_)⟩
     clear hK K
     refine norm_ (a' := ?_) ?_ ?_
     rotate_left
     ·
      show Act.put _ (some 76) _ = _
      simp only [Act.put, List.setIfInBounds_toArray, List.set_cons_zero, List.set_cons_succ, i64_w, i32_w]
      rfl
     refine one_ (i := 8) (N := some 77) (bl 34 2047) rfl rfl (one_of HT_.out (by kernel_rfl)) (by decide) (fun K hK => ?_)
     refine value_ (w1 := ?_) (v := ?_) (by first | rfl | kernel_rfl) rfl ?_ ?_
     rotate_left 2
     ·
      have zc := Kd.C_string (P := Try.prog) (c := cuq) Try.underlying27 Try.underlying5 Try.underlying9 hCUq
      go_simp
      constructor
      ·
       rfl
      ·
       rfl
     refine hK.out _ _ hHeld (fun hHeld => ?_)
     clear hK K
     refine norm_ (a' := ?_) ?_ ?_
     rotate_left
     ·
      show Act.put _ (some 77) _ = _
      simp only [Act.put, List.setIfInBounds_toArray, List.set_cons_zero, List.set_cons_succ, i64_w, i32_w]
      rfl
     refine pure_ (i := 11) (N := some 80) (v := ?_) (a' := ?_) (bl 34 4095) rfl rfl (any_of HT_.out (by kernel_rfl)) (fun _ _ _ h => h) (Or.inl ⟨by first | rfl | kernel_rfl, ?_⟩) ?_ ?_
     rotate_left
     ·
      intro w'
      go_simp
      with_reducible rfl
     rotate_left
     ·
      simp only [Act.put, List.setIfInBounds_toArray, List.set_cons_zero, List.set_cons_succ, i64_w, i32_w]
      rfl
     refine pure_ (i := 12) (N := some 81) (v := ?_) (a' := ?_) (bl 34 8191) rfl rfl (any_of HT_.out (by kernel_rfl)) (fun _ _ _ h => h) (Or.inl ⟨by first | rfl | kernel_rfl, ?_⟩) ?_ ?_
     rotate_left
     ·
      intro w'
      go_simp
      with_reducible rfl
     rotate_left
     ·
      simp only [Act.put, List.setIfInBounds_toArray, List.set_cons_zero, List.set_cons_succ, i64_w, i32_w]
      rfl
     refine pure_ (i := 13) (N := some 82) (v := ?_) (a' := ?_) (bl 34 16383) rfl rfl (any_of HT_.out (by kernel_rfl)) (fun _ _ _ h => h) (Or.inl ⟨by first | rfl | kernel_rfl, ?_⟩) ?_ ?_
     rotate_left
     ·
      intro w'
      go_simp
      with_reducible rfl
     rotate_left
     ·
      simp only [Act.put, List.setIfInBounds_toArray, List.set_cons_zero, List.set_cons_succ, i64_w, i32_w]
      rfl
     refine pure_ (i := 14) (N := some 83) (v := ?_) (a' := ?_) (bl 34 32767) rfl rfl (any_of HT_.out (by kernel_rfl)) (fun _ _ _ h => h) (Or.inl ⟨by first | rfl | kernel_rfl, ?_⟩) ?_ ?_
     rotate_left
     ·
      intro w'
      go_simp
      with_reducible rfl
     rotate_left
     ·
      simp only [Act.put, List.setIfInBounds_toArray, List.set_cons_zero, List.set_cons_succ, i64_w, i32_w]
      rfl
     refine pure_ (i := 15) (N := some 84) (v := ?_) (a' := ?_) (bl 34 65535) rfl rfl (any_of HT_.out (by kernel_rfl)) (fun _ _ _ h => h) (Or.inl ⟨by first | rfl | kernel_rfl, ?_⟩) ?_ ?_
     rotate_left
     ·
      intro w'
      go_simp
      with_reducible rfl
     rotate_left
     ·
      simp only [Act.put, List.setIfInBounds_toArray, List.set_cons_zero, List.set_cons_succ, i64_w, i32_w]
      rfl
     refine pure_ (i := 16) (N := some 85) (v := ?_) (a' := ?_) (bl 34 131071) rfl rfl (any_of HT_.out (by kernel_rfl)) (fun _ _ _ h => h) (Or.inl ⟨by first | rfl | kernel_rfl, ?_⟩) ?_ ?_
     rotate_left
     ·
      intro w'
      go_simp
      with_reducible rfl
     rotate_left
     ·
      simp only [Act.put, List.setIfInBounds_toArray, List.set_cons_zero, List.set_cons_succ, i64_w, i32_w]
      rfl
     refine pure_ (i := 17) (N := some 86) (v := ?_) (a' := ?_) (bl 34 262143) rfl rfl (any_of HT_.out (by kernel_rfl)) (fun _ _ _ h => h) (Or.inl ⟨by first | rfl | kernel_rfl, ?_⟩) ?_ ?_
     rotate_left
     ·
      intro w'
      go_simp
      with_reducible rfl
     rotate_left
     ·
      simp only [Act.put, List.setIfInBounds_toArray, List.set_cons_zero, List.set_cons_succ, i64_w, i32_w]
      rfl
     refine pure_ (i := 18) (N := some 87) (v := undef) (a' := ?_) (bl 34 524287) rfl rfl (any_of HT_.out (by kernel_rfl)) (fun _ _ _ h => h) (Or.inr ⟨by first | rfl | kernel_rfl, rfl⟩) ?_ ?_
     rotate_left
     ·
      simp only [Act.put, List.setIfInBounds_toArray, List.set_cons_zero, List.set_cons_succ, i64_w, i32_w]
      rfl
     refine pure_ (i := 19) (N := some 88) (v := undef) (a' := ?_) (bl 34 1048575) rfl rfl (any_of HT_.out (by kernel_rfl)) (fun _ _ _ h => h) (Or.inr ⟨by first | rfl | kernel_rfl, rfl⟩) ?_ ?_
     rotate_left
     ·
      simp only [Act.put, List.setIfInBounds_toArray, List.set_cons_zero, List.set_cons_succ, i64_w, i32_w]
      rfl
     refine pure_ (i := 20) (N := some 89) (v := undef) (a' := ?_) (bl 34 2097151) rfl rfl (any_of HT_.out (by kernel_rfl)) (fun _ _ _ h => h) (Or.inr ⟨by first | rfl | kernel_rfl, rfl⟩) ?_ ?_
     rotate_left
     ·
      simp only [Act.put, List.setIfInBounds_toArray, List.set_cons_zero, List.set_cons_succ, i64_w, i32_w]
      rfl
     refine pure_ (i := 21) (N := some 90) (v := undef) (a' := ?_) (bl 34 4194303) rfl rfl (any_of HT_.out (by kernel_rfl)) (fun _ _ _ h => h) (Or.inr ⟨by first | rfl | kernel_rfl, rfl⟩) ?_ ?_
     rotate_left
     ·
      simp only [Act.put, List.setIfInBounds_toArray, List.set_cons_zero, List.set_cons_succ, i64_w, i32_w]
      rfl
     refine pure_ (i := 22) (N := some 91) (v := undef) (a' := ?_) (bl 34 8388607) rfl rfl (any_of HT_.out (by kernel_rfl)) (fun _ _ _ h => h) (Or.inr ⟨by first | rfl | kernel_rfl, rfl⟩) ?_ ?_
     rotate_left
     ·
      simp only [Act.put, List.setIfInBounds_toArray, List.set_cons_zero, List.set_cons_succ, i64_w, i32_w]
      rfl
     refine pure_ (i := 23) (N := some 92) (v := undef) (a' := ?_) (bl 34 16777215) rfl rfl (any_of HT_.out (by kernel_rfl)) (fun _ _ _ h => h) (Or.inr ⟨by first | rfl | kernel_rfl, rfl⟩) ?_ ?_
     rotate_left
     ·
      simp only [Act.put, List.setIfInBounds_toArray, List.set_cons_zero, List.set_cons_succ, i64_w, i32_w]
      rfl
     refine pure_ (i := 24) (N := some 93) (v := undef) (a' := ?_) (bl 34 33554431) rfl rfl (any_of HT_.out (by kernel_rfl)) (fun _ _ _ h => h) (Or.inr ⟨by first | rfl | kernel_rfl, rfl⟩) ?_ ?_
     rotate_left
     ·
      simp only [Act.put, List.setIfInBounds_toArray, List.set_cons_zero, List.set_cons_succ, i64_w, i32_w]
      rfl
     refine pure_ (i := 25) (N := some 94) (v := undef) (a' := ?_) (bl 34 67108863) rfl rfl (any_of HT_.out (by kernel_rfl)) (fun _ _ _ h => h) (Or.inr ⟨by first | rfl | kernel_rfl, rfl⟩) ?_ ?_
     rotate_left
     ·
      simp only [Act.put, List.setIfInBounds_toArray, List.set_cons_zero, List.set_cons_succ, i64_w, i32_w]
      rfl
     refine pure_ (i := 26) (N := some 95) (v := undef) (a' := ?_) (bl 34 134217727) rfl rfl (any_of HT_.out (by kernel_rfl)) (fun _ _ _ h => h) (Or.inr ⟨by first | rfl | kernel_rfl, rfl⟩) ?_ ?_
     rotate_left
     ·
      simp only [Act.put, List.setIfInBounds_toArray, List.set_cons_zero, List.set_cons_succ, i64_w, i32_w]
      rfl
     refine pure_ (i := 27) (N := some 96) (v := undef) (a' := ?_) (bl 34 268435455) rfl rfl (any_of HT_.out (by kernel_rfl)) (fun _ _ _ h => h) (Or.inr ⟨by first | rfl | kernel_rfl, rfl⟩) ?_ ?_
     rotate_left
     ·
      simp only [Act.put, List.setIfInBounds_toArray, List.set_cons_zero, List.set_cons_succ, i64_w, i32_w]
      rfl
     refine pure_ (i := 28) (N := some 97) (v := undef) (a' := ?_) (bl 34 536870911) rfl rfl (any_of HT_.out (by kernel_rfl)) (fun _ _ _ h => h) (Or.inr ⟨by first | rfl | kernel_rfl, rfl⟩) ?_ ?_
     rotate_left
     ·
      simp only [Act.put, List.setIfInBounds_toArray, List.set_cons_zero, List.set_cons_succ, i64_w, i32_w]
      rfl
     refine pure_ (i := 29) (N := some 98) (v := undef) (a' := ?_) (bl 34 1073741823) rfl rfl (any_of HT_.out (by kernel_rfl)) (fun _ _ _ h => h) (Or.inr ⟨by first | rfl | kernel_rfl, rfl⟩) ?_ ?_
     rotate_left
     ·
      simp only [Act.put, List.setIfInBounds_toArray, List.set_cons_zero, List.set_cons_succ, i64_w, i32_w]
      rfl
     refine pure_ (i := 30) (N := some 99) (v := undef) (a' := ?_) (bl 34 2147483647) rfl rfl (any_of HT_.out (by kernel_rfl)) (fun _ _ _ h => h) (Or.inr ⟨by first | rfl | kernel_rfl, rfl⟩) ?_ ?_
     rotate_left
     ·
      simp only [Act.put, List.setIfInBounds_toArray, List.set_cons_zero, List.set_cons_succ, i64_w, i32_w]
      rfl
     refine pure_ (i := 31) (N := some 100) (v := undef) (a' := ?_) (bl 34 4294967295) rfl rfl (any_of HT_.out (by kernel_rfl)) (fun _ _ _ h => h) (Or.inr ⟨by first | rfl | kernel_rfl, rfl⟩) ?_ ?_
     rotate_left
     ·
      simp only [Act.put, List.setIfInBounds_toArray, List.set_cons_zero, List.set_cons_succ, i64_w, i32_w]
      rfl
     refine pure_ (i := 32) (N := some 101) (v := ?_) (a' := ?_) (bl 34 8589934591) rfl rfl (any_of HT_.out (by kernel_rfl)) (fun _ _ _ h => h) (Or.inl ⟨by first | rfl | kernel_rfl, ?_⟩) ?_ ?_
     rotate_left
     ·
      intro w'
      go_simp
      with_reducible rfl
     rotate_left
     ·
      simp only [Act.put, List.setIfInBounds_toArray, List.set_cons_zero, List.set_cons_succ, i64_w, i32_w]
      rfl
     refine pure_ (i := 33) (N := some 102) (v := ?_) (a' := ?_) (bl 34 17179869183) rfl rfl (any_of HT_.out (by kernel_rfl)) (fun _ _ _ h => h) (Or.inl ⟨by first | rfl | kernel_rfl, ?_⟩) ?_ ?_
     rotate_left
     ·
      intro w'
      go_simp
      with_reducible rfl
     rotate_left
     ·
      simp only [Act.put, List.setIfInBounds_toArray, List.set_cons_zero, List.set_cons_succ, i64_w, i32_w]
      rfl
     refine done_ (done_of HT_.out (by kernel_rfl)) ?_
     clear HT_ HW_
     have hB := hB12.trans (hHeld.mono hB12.size)
     go_wp2
     go_roundw
     case rel => exact ⟨i + 1, by first | rfl | go_num, by omega, (by repeat (first | exact hB | with_reducible apply below_drew1 | with_reducible apply pw_below_drewN))⟩
     case measure => simp [intOf]; omega
   ·
    have hi4 : ¬ (i : Int) < 4 := by omega
    have hCGr := Kd.C_below hCG hB
    have hCkr := hCk.below hB
    obtain ⟨Ak, ck, ek, hck, hCkr⟩ := hCkr
    have hlk : (G.take k.toNat).length = k.toNat := by rw [List.length_take]; omega
    obtain ⟨rfl, rfl⟩ : Ag = Ak ∧ cg = ck := by injection ek with h1 h2 h3; exact ⟨h1, h3⟩
    have TD := idec.calls Ag cg (G.take k.toNat) wr hCkr hck (fun x hx => hGb.out x (List.mem_of_mem_take hx)) (by omega)
    rw [hlk] at TD
    replace hB := HB58.trans (hB.mono HB58.size)
    clear hCkr ek hck hlk hrows lB58
    go_upto_region 15 with (first | (go_at_call 13; refine TD.mono ?_; rintro e w21 ⟨hb21, ⟨s2, c2, L2, V2, cv2, rfl, him2, hu2, hB2, hcv2, hCV2⟩ | ⟨rfl, _⟩⟩; exact absurd hB2 (hcutk.out s2 c2 L2 him2 hu2)) | go_in)
    have hb22 : Below w21.heap.size w21 (w21.alloc (Obj.cells #[.int .i64 0, .int .i64 0, .slice none 0 0] 25 (0, 0))) := below_alloc (Below.refl _ _) _
    have hCGr := Kd.C_below hCGr (hb21.trans (hb22.mono hb21.size))
    have hB := hB.trans ((hb21.trans (hb22.mono hb21.size)).mono hB.size)
    generalize w21.alloc (Obj.cells #[.int .i64 0, .int .i64 0, .slice none 0 0] 25 (0, 0)) = w22 at *
    clear hb21 hb22 TD
    go_upto_region 16 with (first
     | (at_builtin; refine Kd.R_append_rows (Kd.int .u8) (w0 := w) w.heap.size rfl (.const (.slice none 0 0)) (.tmp 112) 27 5 (.int .u8 0) 1 rfl Try.underlying27 info5c rfl (by decide) (by omega) (.slice none 0 0) ([] : List Int) G Ag _ cg (fun _ => True) (fun _ => False) rfl rfl (Kd.R_nil _ _ _ _ _) hCGr (fun _ _ h => h) (fun _ h => h.elim) (fun _ _ => trivial) hB hB.size (by simp; omega) ?_; intro v31 w31 hR31 HB31 hg31 hat31; rw [List.nil_append] at hR31; have tok31 := hR31)
     | (at_builtin; go_loud (refine Kd.R_append (Kd.int .u8) (w0 := w) w.heap.size rfl (.tmp 113) (.tmp 115) 27 5 (.int .u8 0) 1 rfl Try.underlying27 info5c rfl (by decide) (by omega) v31 G wi [.int .u8 wi] (fun _ => True) (fun _ => False) rfl (by first | rfl | (go_simp; done) | (go_simp; rfl)) rfl (fun _ hk => hk.elim) (fun _ _ => trivial) hR31 HB31 HB31.size (by omega) ?_; intro v33 w33 hR33 HB33 hg33 hat33; obtain ⟨A33, c33, rfl, hc33, hC33⟩ := Kd.R_reads (hGwe.out ▸ hR33)))
     | (go_at_call 13; refine (idec.calls A33 c33 Gw w33 hC33 hc33 hGw.out (by rw [hGwe.out, List.length_append]; simp; omega)).mono ?_; rintro e w34 ⟨hb34, ⟨s2, c2, L2, V2, cv2, rfl, him2, hu2, hB2, hcv2, hCV2⟩ | ⟨rfl, _⟩⟩; exact absurd hB2 (hmoreN.out s2 c2 L2 him2 hu2))
     | go_in)
    have HB34 := HB33.trans (hb34.mono HB33.size)
    go_wp2
    refine bodyPost_ret (v := .bool true) (by simp [results, Try.results6, go_sem]) rfl ⟨rfl, ?_⟩
    repeat (first | exact HB34 | with_reducible apply below_drew1 | with_reducible apply pw_below_drewN | apply below_alloc)
end Go.Proofs.Yteajbeajkplplaa.Pure
