/-
The document's example: tautochronelaw23.awake. Conditions: as each theorem states them.
-/
import Derived.Test.YtaenjbhhpdmhgaaMTsL
import Derived.Test.YtaenjbhhpdmhgaaMTsK
set_option linter.unusedVariables false
set_option linter.unusedSimpArgs false
namespace Go.Proofs.Ytaenjbhhpdmhgaa.Tso
open Go.RowKit Go.Proofs.YtaenjbhhpdmhgaaW.PrintWords Go.Proofs.YtaenjbhhpdmhgaaW.PrintLast Go.Proofs.YtaenjbhhpdmhgaaW.PrintMore
open Go.Proofs.Ytaenjbhhpdmhgaa.Kit
open Go.Proofs.Ytaenjbhhpdmhgaa.PTsoScript
/-- What a step needs, to be decided. -/
def fitB (cells : List Int) (t : Thr) (x : S28) : Bool :=
  decide (x.f0 = 0 ∨ x.f0 = 1 ∨ x.f0 = 4 ∨ x.f0 = 5 ∨ x.f0 = 6 ∨ x.f0 = 7 ∨ x.f0 = 8 ∨ x.f0 = 9 ∨ x.f0 = 10 ∨ x.f0 = 11 ∨ x.f0 = 12 ∨ x.f0 = 13) &&
  decide (x.f0 = 0 ∨ x.f0 = 1 ∨ x.f0 = 4 → 0 ≤ x.f2 ∧ x.f2 < 8) && decide (0 ≤ x.f6 ∧ x.f6 < 18446744073709551616) && (t.rs.all fun v => decide (0 ≤ v ∧ v < 18446744073709551616)) &&
  decide (0 < cells.length) && decide (cells.length ≤ 1048576) && decide (t.wr.length ≤ 4194304) && decide (t.out.length ≤ 4194304) && decide (0 ≤ t.at_ ∧ t.at_ < 1000000)
theorem fit_of {cells : List Int} {t : Thr} {x : S28} (h : fitB cells t x = true) : Fit cells t x := by
  unfold fitB at h
  simp only [Bool.and_eq_true, decide_eq_true_eq, List.all_eq_true] at h
  obtain ⟨⟨⟨⟨⟨⟨⟨⟨h1, h2⟩, h3⟩, h4⟩, h5⟩, h6⟩, h7⟩, h8⟩, h9⟩ := h
  exact ⟨h1, h2, h3, fun v hv => h4 v hv, fun _ => h5, h6, h7, h8, h9⟩
def fitsB (M : Mch) : Bool := M.thr.all fun t => t.halted || (match t.codes[t.at_.toNat]? with | none => false | some x => fitB M.cells t x)
theorem fits_of {M : Mch} (h : fitsB M = true) : Fits M := by
  intro t ht hh
  unfold fitsB at h
  rw [List.all_eq_true] at h
  have := h t ht
  rw [hh, Bool.false_or] at this
  split at this
  · cases this
  · rename_i x hx
    exact ⟨x, hx, fit_of this⟩
def twoX (a b : Int) : List S28 := (rawTwo a b).map bareX
def awk0 : Mch := ⟨[0, 0], [initThr (twoX 0 1), initThr (twoX 1 0)], 0⟩
def awk : Nat → Mch
  | 0 => awk0
  | j + 1 => (stepF (stepF (awk j) 0).1 1).1
theorem awk_fits : ∀ j < 4, fitsB (awk j) = true ∧ fitsB (stepF (awk j) 0).1 = true ∧ (awk j).thr.length = 2 := by
  intro j hj
  have : j = 0 ∨ j = 1 ∨ j = 2 ∨ j = 3 := by omega
  rcases this with rfl | rfl | rfl | rfl <;> exact ⟨by kernel_rfl, by kernel_rfl, by kernel_rfl⟩
theorem awk_end : ∃ t0 t1, (awk 4).thr = [t0, t1] ∧ t0.out = [0] ∧ t1.out = [0] ∧ t0.wr.length = 1 ∧ (awk 4).steps = 8 ∧ t0.rs.length = 8 ∧ t1.rs.length = 8 := by
  refine ⟨(awk 4).thr.getD 0 (initThr []), (awk 4).thr.getD 1 (initThr []), ?_, ?_, ?_, ?_, ?_, ?_, ?_⟩ <;> kernel_rfl
theorem awk_im : Pure.imS ((2 : Nat) : Int) ((2 : Nat) : Int) [twoX 0 1, twoX 1 0] := of_decide_eq_true (by kernel_rfl)
theorem twoX_calls (a b : Int) (w : World) : Calls Try.prog 27 #[.int .u64 a, .int .u64 b] w fun e w' => ∃ A c, e = .returned (.slice A 5 c) ∧ Kd.R k28 28 w' w.heap.size (fun _ => True) (.slice A 5 c) (twoX a b) ∧ Below w.heap.size w w' := by
  refine (two.calls a b w).mono ?_
  rintro e w' ⟨v, rfl, hR, hb⟩
  obtain ⟨A, c, rfl⟩ := Kd.R_slice hR
  exact ⟨A, c, rfl, hR, hb⟩
theorem awk_of (V : Option Addr) (cg : Nat) (w : World) (hC : Kd.C (Kd.slice 28 k28) w V 2 [twoX 0 1, twoX 1 0]) (hcg : 2 ≤ cg) :
    Calls Try.prog 11 #[.agg #[.int .i64 2, .int .i64 2, .slice V 2 cg], .slice none 0 0] w fun e w' => ∃ (mb : Nat) (ts : List Nat) (cv pv : Value), e = .returned (.tuple #[.pointer (some ⟨mb, 0, none⟩), .bool true]) ∧ Mach w' w.heap.size mb (fun _ => 0) ts cv pv awk0 ∧ Below w.heap.size w w' :=
  of.calls 2 2 [twoX 0 1, twoX 1 0] V cg none 0 [] w hC hcg (fun t ht => by
    simp only [List.mem_cons, List.not_mem_nil, or_false] at ht
    rcases ht with rfl | rfl <;> (show 5 ≤ _; omega)) awk_im (Kd.C_nil _ _)
theorem out_one {W : World} {base mb : Nat} {col : Nat → Nat} {ts : List Nat} {cv pv : Value} {M : Mch} (hM : Mach W base mb col ts cv pv M) {k b : Nat} {t : Thr} (hk : ts[k]? = some b) (ht : M.thr[k]? = some t) (ho : t.out = [0]) (hr : t.rs.length = 8) :
    ∃ P : Ending → World → Prop, Calls Try.prog 16 #[.pointer (some ⟨mb, 0, none⟩), .int .i64 (k : Int)] W P ∧ ∀ e w', P e w' → ∃ g c, e = .returned (.slice (some ⟨g, 0, none⟩) 1 c) ∧ w'.cell? ⟨g, 0, none⟩ = some (.int .u64 0) ∧ g < w'.heap.size ∧ Below W.heap.size W w' := by
  obtain ⟨v, wv, ov, hT⟩ := hM.thr k b t hk ht
  have hout := hT.out
  have hblk := hT.blk
  rw [ho] at hout
  obtain ⟨A, c, rfl⟩ := Kd.R_slice hout
  refine ⟨_, output.calls mb cv pv M.steps ts k b W hM.blk (prow_of hM.ptrs) hk v wv A c [0] t.at_ t.rs t.halted hr hblk (Kd.R_reads' hout).2.2 (by decide), ?_⟩
  rintro e w' ⟨v1, rfl, hR, hb⟩
  obtain ⟨g, cg, rfl, _, hl, _⟩ := Kd.R_form hR (by decide)
  have hx := (Kd.R_celln 0 hR 0 (by omega) (by decide)).1
  exact ⟨g, cg, rfl, hx, Kd.R_lt hR g rfl, hb⟩
set_option maxHeartbeats 8000000 in
set_option maxRecDepth 100000 in
theorem awake.calls (w : World) : Calls Try.prog 9 #[] w fun e w' => e = .returned (.bool true) ∧ Below w.heap.size w w' := by
  have T1 := twoX_calls 0 1 w
  go_enter Try.func9, Try.ntmps9
  go_upto_region 2 with (first
    | (go_at_call 27; first
        | (refine T1.mono ?_; rintro e w1 ⟨A1, c1, rfl, hR1, hb1⟩; have T2 := twoX_calls 1 0 w1; clear T1)
        | (refine T2.mono ?_; rintro e w2 ⟨A2, c2, rfl, hR2, hb2⟩; have hR1 := Kd.R_below hR1 hb2))
    | ((with_reducible refine gate_dst (N := 8) rfl ?_); go_loud (refine Kd.R_lit (Kd.slice 28 k28) (w0 := w) w.heap.size 29 rfl (N := 8) rfl (xs := [twoX 0 1, twoX 1 0]) (inner := [.slice A1 5 c1, .slice A2 5 c2]) (ok := fun _ => True) (okp := fun _ => True) (by go_simp) (Reps.one ⟨_, rfl, hR1⟩ (Reps.one ⟨_, rfl, Kd.R_lower hR2 hb1.size⟩ (Reps.none _ _))) (fun _ h => h) trivial (hb1.trans (hb2.mono hb1.size)) (Nat.le_trans hb1.size hb2.size) (by show 2 ≤ _; omega) ?_; intro v3 w3 hR3 hb3 hg3 hn3; obtain ⟨g, cg, rfl, hgb, hgl, hcg, cells3, hgh⟩ := R_form2 hR3 hn3; rw [show [twoX 0 1, twoX 1 0].length = 2 from rfl] at hR3 hcg ⊢; have TO := awk_of (some ⟨g, 0, none⟩) cg w3 (Kd.R_reads' hR3).2.2 hcg))
    | (go_at_call 11; go_loud (refine TO.mono ?_; rintro e w4 ⟨mb, ts, cv, pv, rfl, hM, hb4⟩))
    | go_in)
  have HB := hb3.trans (hb4.mono hb3.size)
  have hBW : w3.heap.size ≤ w4.heap.size := hb4.size
  have hw3 : w.heap.size ≤ w3.heap.size := hb3.size
  clear TO hb4 hb3 hg3 hn3 hgh hcg hgl hgb cells3 hR1 hR2 hR3 hb1 hb2
  generalize w3.heap.size = base at hM hBW hw3
  go_wp2
  go_loopw [19] (fun v19 wr' => ∃ (j : Nat) (col : Nat → Nat) (cv2 : Value), v19 = .int .i64 j ∧ j ≤ 4 ∧ Mach wr' base mb col ts cv2 pv (awk j) ∧ base ≤ wr'.heap.size ∧ Below w.heap.size w wr')
    (fun v19 _ => 4 - (intOf v19).toNat)
  case atStart => exact ⟨0, _, _, rfl, by omega, hM, hBW, HB⟩
  case round =>
    clear hM hBW HB
    obtain ⟨j, col, cv2, rfl, hj4, hM, hBW, HB⟩ := hrel
    by_cases hj : j < 4
    · obtain ⟨hf1, hf2, hl2⟩ := awk_fits j hj
      have htl : ts.length = 2 := hM.len.trans hl2
      have TS : ∀ (wx : World) (colx : Nat → Nat) (cvx : Value) (Mx : Mch), Mach wx base mb colx ts cvx pv Mx → base ≤ wx.heap.size → fitsB Mx = true → ∀ k : Nat, k < 2 →
          Calls Try.prog 12 #[.pointer (some ⟨mb, 0, none⟩), .int .i64 (k : Int)] wx (StepP wx base mb ts colx pv (stepF Mx k).1 (k : Int) (stepF Mx k).2.1 (stepF Mx k).2.2.1 (stepF Mx k).2.2.2) :=
        fun wx colx cvx Mx h hb hf k hk => stepF.calls base mb k colx ts cvx pv Mx wx h (by rw [htl]; exact hk) hb (fits_of hf)
      have T0 := TS wr col cv2 (awk j) hM hBW hf1 0 (by omega)
      have hnext : (stepF (stepF (awk j) 0).1 1).1 = awk (j + 1) := rfl
      replace hnext := Aside0.mk hnext
      replace htl := Aside0.mk htl
      replace hl2 := Aside0.mk hl2
      go_wp2_with (first
        | (go_at_call 12; first
            | (refine T0.mono ?_; rintro e w5 ⟨rfl, hb5, col5, cv5, -, hM5⟩; have hBW5 := Nat.le_trans hBW hb5.size; have HB5 := HB.trans ((hb5.low hBW).mono hw3); have T5 := TS w5 col5 cv5 _ hM5 hBW5 hf2 1 (by omega); clear T0)
            | (refine T5.mono ?_; rintro e w6 ⟨rfl, hb6, col6, cv6, -, hM6⟩; have hBW6 := Nat.le_trans hBW5 hb6.size; have HB6 := HB5.trans ((hb6.low hBW5).mono hw3)))
        | go_in)
      rw [hnext.out] at hM6
      go_roundw
      case rel => exact ⟨j + 1, _, _, by first | rfl | go_num, by omega, hM6, hBW6, HB6⟩
      case measure => simp [intOf]; omega
    · obtain rfl : j = 4 := by omega
      obtain ⟨t0, t1, hthr, ho0, ho1, hw0, hst, hr0, hr1⟩ := awk_end
      have htl : ts.length = 2 := hM.len.trans (by rw [hthr]; rfl)
      obtain ⟨b0, b1, hts⟩ : ∃ b0 b1, ts = [b0, b1] := match ts, htl with
        | [b0, b1], _ => ⟨b0, b1, rfl⟩
      subst hts
      have ht0 : (awk 4).thr[0]? = some t0 := by rw [hthr]; rfl
      have ht1 : (awk 4).thr[1]? = some t1 := by rw [hthr]; rfl
      replace hthr := Aside0.mk hthr
      clear htl
      obtain ⟨s0, hs0⟩ : ∃ s, s = (awk 4).steps := ⟨_, rfl⟩
      have TO0 : ∃ P : Ending → World → Prop, Calls Try.prog 16 #[.pointer (some ⟨mb, 0, none⟩), .int .i64 0] wr P ∧ ∀ e w', P e w' → ∃ g c, e = .returned (.slice (some ⟨g, 0, none⟩) 1 c) ∧ w'.cell? ⟨g, 0, none⟩ = some (.int .u64 0) ∧ g < w'.heap.size ∧ Below wr.heap.size wr w' :=
        out_one hM rfl ht0 ho0 hr0
      obtain ⟨P0, TO0, hP0⟩ := TO0
      go_upto_region 10 with (first
        | (go_at_call 16; first
            | (refine TO0.mono ?_; intro e w5 hp5; obtain ⟨g5, c5, rfl, x5, l5, hb5⟩ := hP0 e w5 hp5; have hM5 := hM.below hb5; obtain ⟨P1, TO1, hP1⟩ := out_one hM5 (k := 1) (b := b1) rfl ht1 ho1 hr1; clear TO0 hP0 hp5)
            | (refine TO1.mono ?_; intro e w6 hp6; obtain ⟨g6, c6, rfl, x6, l6, hb6⟩ := hP1 e w6 hp6; have x5 := (hb6.cell (by exact l5)).trans x5; have hM6 := hM5.below hb6; clear TO1 hP1 hp6))
        | go_in)
      have HB6 := (HB.trans (hb5.mono HB.size)).trans (hb6.mono (HB.trans (hb5.mono HB.size)).size)
      have TS6 : Calls Try.prog 26 #[.pointer (some ⟨mb, 0, none⟩)] w6 fun e w' => e = .returned (.int .i64 8) ∧ w' = w6 := by
        have := steps.calls mb cv2 pv _ w6 hM6.blk
        rw [hst] at this
        exact this
      have TW6 : Calls Try.prog 17 #[.pointer (some ⟨mb, 0, none⟩), .int .i64 0] w6 fun e w' => e = .returned (.int .i64 1) ∧ w' = w6 := by
        obtain ⟨v, wv, ov, hT⟩ := hM6.thr 0 b0 t0 rfl ht0
        have hblk := hT.blk
        obtain ⟨A, c, hwv⟩ := Kd.R_slice hT.wr
        rw [hwv, hw0] at hblk
        exact waiting.calls mb cv2 pv _ [b0, b1] 0 w6 hM6.blk (prow_of hM6.ptrs) (by simp) v ov A 1 c t0.at_ t0.rs t0.halted hr0 hblk
      clear hM hM5 hM6 hb5 hb6 HB hBW ht0 ht1 ho0 ho1 hw0 hst hr0 hr1 hs0
      go_wp2_with (first
        | (go_at_call 17; refine TW6.mono ?_; rintro e w7 ⟨rfl, h7⟩; obtain rfl := h7)
        | (go_at_call 26; refine TS6.mono ?_; rintro e w8 ⟨rfl, h8⟩; obtain rfl := h8)
        | go_in)
      go_ret
      exact ⟨rfl, HB6⟩
end Go.Proofs.Ytaenjbhhpdmhgaa.Tso
