/-
lex.Cut by contract: a text's tokens, or where one begins that is none, or that it is too long. Conditions: as each theorem states them.
-/
import Derived.Test.YtmklkkpeolnjbaaDoorMTok
set_option linter.unusedVariables false
set_option linter.unusedSimpArgs false
namespace Go.Proofs.YtmklkkpeolnjbaaDoor.Lex
open Go.RowKit Go.Proofs.YtmklkkpeolnjbaaDoorW.PrintWords Go.Proofs.YtmklkkpeolnjbaaDoorW.PrintLast Go.Proofs.YtmklkkpeolnjbaaDoorW.PrintMore
open Go.Proofs.YtmklkkpeolnjbaaDoor.Kit Go.ChangeMaps Go.MapKept
open Go.Proofs.YtmklkkpeolnjbaaDoor.PLexCut
attribute [local go_sem] max2_int min2_int max_two min_two max_three min_three max_four min_four   -- for this text's walks alone
/-- What Cut hands back. -/
def CutP (w : World) (r : List Tok ⊕ Nat) (e : Ending) (w' : World) : Prop := Below w.heap.size w w' ∧ match r with
  | .inl ts => ∃ A c, e = .returned (.tuple #[.slice A ts.length c, .nilIface]) ∧ ts.length ≤ c ∧ Kd.C kTok w' A ts.length ts
  | .inr a => ∃ v, e = .returned (.tuple #[.slice none 0 0, v]) ∧ As.Fault w' v 1 a
/-- As CutP, and that the row is Cut's own. -/
def CutR (w : World) (r : List Tok ⊕ Nat) (e : Ending) (w' : World) : Prop := Below w.heap.size w w' ∧ match r with
  | .inl ts => ∃ A c, e = .returned (.tuple #[.slice A ts.length c, .nilIface]) ∧ ts.length ≤ c ∧ Kd.C kTok w' A ts.length ts ∧ Kd.R kTok 32 w' w.heap.size (fun _ => True) (.slice A ts.length c) ts
  | .inr a => ∃ v, e = .returned (.tuple #[.slice none 0 0, v]) ∧ As.Fault w' v 1 a
theorem cut_long (s : ByteArray) (w : World) (hs : 65536 < s.size) (hs2 : s.size ≤ 9223372036854775807) :
    Calls Tryd.prog 10 #[.string s] w fun e w' => Below w.heap.size w w' ∧ ∃ v, e = .returned (.tuple #[.slice none 0 0, v]) ∧ As.Fault w' v 6 0 := by
  have hsi : (s.size : Int) > 65536 := by omega
  go_enter Tryd.func10, Tryd.ntmps10
  go_wp2_with (first | (go_at_call 17; refine (As.wrap.calls 35 (.int .i64 6) 0 w).mono ?_; rintro e w1 ⟨rfl, rfl⟩))
  go_ret2
  exact ⟨below_alloc (Below.refl _ _) _, _, rfl, ⟨⟨_, rfl, by simp, by simp⟩⟩⟩
theorem TabS.below {w w' : World} {base b : Nat} (h : TabS w base b) (hb : Below w.heap.size w w') : TabS w' base b := by
  rcases h with h | ⟨m, hm, h, es, clock, h1, h2⟩
  · exact .inl ((hb.block b (blk_lt h)).trans h)
  · exact .inr ⟨m, hm, (hb.block b (blk_lt h)).trans h, es, clock, (hb.block m (Array.getElem?_eq_some_iff.mp h1).1).trans h1, h2⟩
theorem same_b (a b : ByteArray) : (a.toList == b.toList) = decide (a = b) := by rw [← beq_toListBytes, beq_b]
theorem sign_fit (s : ByteArray) (i : Nat) (h : i < s.size) : i + (signS s i).size ≤ s.size := by
  unfold signS
  split
  · rw [ByteArray.size_extract]; omega
  · split
    · rw [ByteArray.size_extract]; omega
    · show i + 0 ≤ s.size; omega
theorem TabS.block {w : World} {base b : Nat} (h : TabS w base b) : ∃ cells, w.heap[b]? = some (Obj.cells cells 59 (0, 0)) := by
  rcases h with h | ⟨m, hm, h, hk⟩
  · exact ⟨_, h⟩
  · exact ⟨_, h⟩
theorem TabS.set {w : World} {base b g j : Nat} {cs : Array Value} {u : Value} (h : TabS w base b) (hg : w.heap[g]? = some (Obj.cells cs 32 (0, 0))) : TabS (w.setCell ⟨g, j, none⟩ u) base b := by
  have hne : ∀ (k : Nat) (o : Obj), w.heap[k]? = some o → (∀ cells, o ≠ Obj.cells cells 32 (0, 0)) → (w.setCell ⟨g, j, none⟩ u).heap[k]? = some o := by
    intro k o ho hc
    rw [Below.heap_setCell _ _ _ _ (fun e => by
      have e : k = g := e
      subst e
      rw [ho] at hg
      injection hg with hg
      exact hc _ hg)]
    exact ho
  rcases h with h | ⟨m, hm, h, es, clock, h1, h2⟩
  · exact .inl (hne b _ h (fun cells e => by unfold tabObj at e; injection e with _ e2 _; exact absurd e2 (by decide)))
  · exact .inr ⟨m, hm, hne b _ h (fun cells e => by unfold tabObj at e; injection e with _ e2 _; exact absurd e2 (by decide)), es, clock, hne m _ h1 (fun cells e => by cases e), h2⟩
theorem tab_push {W w3 : World} {base base' b : Nat} {ok : Nat → Prop} {v : Value} {ts : List Tok} (hT : TabS W base b) (hR : Kd.R kTok 32 W base' ok v ts) (hg : W.grownBy w3 v.ownBlock) : TabS w3 base b :=
  hT.kept hg (fun k cells e hk hh => by
    obtain ⟨c2, h2⟩ := Kd.R_typed hR k hk
    rw [hh] at h2
    injection h2 with h2
    injection h2 with _ h3 _
    rw [h3]
    decide) (fun k hk => by
    obtain ⟨c2, h2⟩ := Kd.R_typed hR k hk
    exact ⟨_, _, h2⟩)
set_option maxHeartbeats 40000000 in
set_option maxRecDepth 100000 in
theorem cutR.calls (s : ByteArray) (w : World) (hs : s.size ≤ 65536) : Calls Tryd.prog 10 #[.string s] w (CutR w (cutS s (s.size + 1) 0 [])) := by
  obtain ⟨res, hres⟩ : ∃ r, r = cutS s (s.size + 1) 0 [] := ⟨_, rfl⟩
  rw [← hres]
  have hsi : ¬ (s.size : Int) > 65536 := by omega
  replace hres := Aside0.mk hres
  go_enter Tryd.func10, Tryd.ntmps10
  go_upto_region 5 with go_in
  have eT : (w.alloc (tabObj 0 0 none)).heap[w.heap.size]? = some (tabObj 0 0 none) := heap_alloc_new w _
  have hb1 : Below w.heap.size w (w.alloc (tabObj 0 0 none)) := below_alloc (Below.refl _ _) _
  unfold tabObj at eT hb1
  generalize w.alloc (Obj.cells #[.int .u32 0, .int .i32 0, .int .u32 0, .map none] 59 (0, 0)) = w1 at eT hb1 ⊢
  have hT : TabS w1 w.heap.size w.heap.size := .inl eT
  clear eT
  go_wp2
  go_loopw [4, 6] (fun v4 v6 wr => ∃ (i m : Nat) (ts : List Tok), v6 = .int .i64 i ∧ i ≤ s.size ∧ s.size - i < m ∧ res = cutS s m i ts ∧ ts.length ≤ i ∧ TabS wr w.heap.size w.heap.size ∧ Kd.R kTok 32 wr w.heap.size (fun _ => True) v4 ts ∧ Below w.heap.size w wr)
    (fun _ v6 _ => s.size - (intOf v6).toNat)
  case atStart => exact ⟨0, s.size + 1, [], rfl, by omega, by omega, hres.out, by simp, hT, Kd.R_nil _ _ _ _ _, hb1⟩
  case round =>
    clear hT hb1 hres
    obtain ⟨i, m, ts, rfl, hi, hm, hr, htl, hT, hR, hB⟩ := hrel
    obtain ⟨m, rfl⟩ : ∃ m', m = m' + 1 := ⟨m - 1, by omega⟩
    rw [cutS] at hr
    by_cases his : i < s.size
    · have hii : (i : Int) < (s.size : Int) := by omega
      have hi0 : (0 : Int) ≤ (i : Int) := by omega
      have hbt : ∀ h : i < s.size, ((s[i]'h).toNat : Int) = bt s (i : Int) := fun h => bt_at s (i : Int) (by simpa using h)
      have hn1 := nxtL i (by omega)
      rw [if_pos his] at hr
      unfold stepS at hr
      by_cases hbl : isBlank (bt s (i : Int)) = true
      · rw [if_pos hbl] at hr
        simp only at hr
        replace hr := Aside0.mk hr
        replace hbl := of_decide_eq_true hbl
        have go : ∀ wx, TabS wx w.heap.size w.heap.size → True := fun _ _ => trivial
        clear go
        generalize bt s (i : Int) = c at hbl hbt ⊢
        rcases hbl with h | h | h | h <;> subst h
        all_goals
          go_wp2
          go_roundw
          case rel => exact ⟨i + 1, m, ts, by first | rfl | go_num, by omega, by omega, hr.out, by omega, hT, hR, hB⟩
          case measure => simp [intOf]; omega
      · rw [if_neg hbl] at hr
        have hb1 : ¬ bt s (i : Int) = 32 := fun h => hbl (decide_eq_true (.inl h))
        have hb2 : ¬ bt s (i : Int) = 10 := fun h => hbl (decide_eq_true (.inr (.inl h)))
        have hb3 : ¬ bt s (i : Int) = 9 := fun h => hbl (decide_eq_true (.inr (.inr (.inl h))))
        have hb4 : ¬ bt s (i : Int) = 13 := fun h => hbl (decide_eq_true (.inr (.inr (.inr h))))
        have hc1 : (bt s (i : Int) == 32) = false := beq_eq_false_iff_ne.mpr hb1
        have hc2 : (bt s (i : Int) == 10) = false := beq_eq_false_iff_ne.mpr hb2
        have hc3 : (bt s (i : Int) == 9) = false := beq_eq_false_iff_ne.mpr hb3
        have hc4 : (bt s (i : Int) == 13) = false := beq_eq_false_iff_ne.mpr hb4
        clear hbl
        by_cases h35 : bt s (i : Int) = 35
        · rw [if_pos h35] at hr
          simp only at hr
          have hl := runS_lt (p := isLine) his (by rw [h35]; rfl)
          have TR := run_line.calls s i wr (by omega) (by omega)
          generalize hj : runS isLine s i = j at hr hl TR
          replace hj := Aside0.mk hj
          replace hr := Aside0.mk hr
          have hc5 : (bt s (i : Int) == 35) = true := beq_iff_eq.mpr h35
          clear h35 hb1 hb2 hb3 hb4
          generalize bt s (i : Int) = c at *
          go_wp2_with (first | (go_at_call 18; refine TR.mono ?_; rintro e w2 ⟨rfl, hb2⟩))
          go_roundw
          case rel => exact ⟨j, m, ts, by first | rfl | go_num, by omega, by omega, hr.out, by omega, hT.below hb2, Kd.R_below hR hb2, hB.trans (hb2.mono hB.size)⟩
          case measure => simp [intOf]; omega
        · rw [if_neg h35] at hr
          have hc5 : (bt s (i : Int) == 35) = false := beq_eq_false_iff_ne.mpr h35
          have hcr := bt_range s (i : Int)
          cases hl : isLetter (bt s (i : Int)) with
          | true =>
            rw [if_pos hl] at hr
            simp only at hr
            have hlt := runS_lt (p := isWord) his (by unfold isWord; rw [hl]; rfl)
            have TR := fun (wx : World) => run_word.calls s i wx (by omega) (by omega)
            have TL := letter.calls (bt s (i : Int)) wr
            rw [hl] at TL
            generalize hj : runS isWord s i = j at hr hlt TR
            replace hj := Aside0.mk hj
            clear h35 hb1 hb2 hb3 hb4 hl
            generalize bt s (i : Int) = c at *
            have hji : ((i : Int) ≤ (j : Int)) := by omega
            have hjs : ((j : Int) ≤ (s.size : Int)) := by omega
            obtain ⟨T, hTx⟩ : ∃ T, T = s.extract i j := ⟨_, rfl⟩
            rw [← hTx] at hr
            replace TR := Aside0.mk TR
            replace hr := Aside0.mk hr
            go_upto_region 18 with (first
              | (go_at_call 20; refine TL.mono ?_; rintro e w2 ⟨rfl, hb2⟩)
              | (go_at_call 18; refine (TR.out w2).mono ?_; rintro e w3 ⟨rfl, hb3⟩)
              | go_in)
            have hb23 := hb2.trans (hb3.mono hb2.size)
            have hT := hT.below hb23
            have hR := Kd.R_below hR hb23
            have hB := hB.trans (hb23.mono hB.size)
            clear hb2 hb3 hb23 TL TR
            have hR := Kd.R_mono (ok' := fun k => k ≠ w3.heap.size) (Kd.R_bound hR) (fun k hk => by have := hk.2.2.1; omega)
            go_upto_region 19 with go_in
            simp only [← hTx]
            replace hTx := Aside0.mk hTx
            have e9 := heap_alloc_new w3 (Obj.cells #[.int .i64 1, .string T, .int .u64 0, .int .i64 (i : Int)] 32 (0, 0))
            have hb4 : Below w3.heap.size w3 (w3.alloc (Obj.cells #[.int .i64 1, .string T, .int .u64 0, .int .i64 (i : Int)] 32 (0, 0))) := below_alloc (Below.refl _ _) _
            have hT := hT.below hb4
            have hR := Kd.R_below hR hb4
            have hB4 := hB.trans (hb4.mono hB.size)
            have hbb9 : w.heap.size ≤ w3.heap.size := hB.size
            have hr := hr.out
            have hb9 : w.heap.size ≠ w3.heap.size := by
              have := hB.size
              obtain ⟨cl, h⟩ := (show TabS w3 w.heap.size w.heap.size from by assumption).block
              have := blk_lt h
              omega
            generalize w3.alloc (Obj.cells #[.int .i64 1, .string T, .int .u64 0, .int .i64 (i : Int)] 32 (0, 0)) = w4 at *
            generalize w3.heap.size = B9 at *
            obtain ⟨tc, htc⟩ := hT.block
            have hR := Kd.R_types hR htc (by decide)
            have l9 : B9 < w4.heap.size := blk_lt e9
            have TK := key.calls w.heap.size w.heap.size T w4 hB4.size hT
            have l9b : w.heap.size ≤ B9 := hbb9
            have c9 : w4.cell? ⟨B9, 1, none⟩ = some (.string T) := (blk_cell e9 1).trans rfl
            cases hkk : isKey keys T with
            | false =>
              rw [hkk] at hr TK
              rw [if_neg (by decide)] at hr
              replace hr := Aside0.mk hr
              replace hkk := Aside0.mk hkk
              clear hT hb4 hB htc
              go_upto_region 22 with (first
                | (go_at_call 23; refine TK.mono ?_; rintro e w5 ⟨rfl, hT, hg5⟩; have e95 := (hg5.block B9 l9 (fun e => hb9 (by injection e with e; exact e.symm))).trans e9; have y0 := (blk_cell e95 0).trans rfl; have y1 := (blk_cell e95 1).trans rfl; have y2 := (blk_cell e95 2).trans rfl; have y3 := (blk_cell e95 3).trans rfl; have hR5 := Kd.R_grown hR hg5 (fun k hk e => hk.2 (by injection e)); have HB5 := hB4.grown hg5 hB4.size (fun k hk => by injection hk with hk; omega))
                | (at_builtin; go_loud (refine Kd.R_append kTok (w0 := w) w.heap.size rfl (.tmp 83) (.tmp 85) 23 32 (.agg #[.int .i64 0, .string ⟨#[]⟩, .int .u64 0, .int .i64 0]) 40 rfl Tryd.underlying23 infoTok rfl (by decide) (by omega) u4 ts ⟨1, T, 0, i⟩ [.int .i64 1, .string T, .int .u64 0, .int .i64 (i : Int)] (fun _ => True) (fun _ => False) rfl (by first | rfl | (go_simp; done) | (go_simp; rfl)) (kTok_mkM _ _ _ _) (fun _ hk => hk.elim) (fun _ _ => trivial) (Kd.R_mono hR5 (fun _ _ => trivial)) HB5 HB5.size (by omega) ?_; intro v1 w9 hR9 HB9 hg9 hat9))
                | go_in)
              have hT9 := tab_push hT (Kd.R_mono hR5 (ok' := fun _ => True) (fun _ _ => trivial)) hg9
              clear hg9 hat9
              go_wp2
              go_roundw
              case rel => exact ⟨j, m, ts ++ [⟨1, T, 0, i⟩], by first | rfl | go_num, by omega, by omega, hr.out, by rw [List.length_append]; simp; omega, hT9, hR9, HB9⟩
              case measure => simp [intOf]; omega
            | true =>
              rw [hkk] at hr TK
              rw [if_pos rfl] at hr
              replace hr := Aside0.mk hr
              replace hkk := Aside0.mk hkk
              clear hT hb4 hB htc
              go_upto_region 21 with (first
                | (go_at_call 23; go_loud (refine TK.mono ?_; rintro e w5 ⟨rfl, hT, hg5⟩; have e95 := (hg5.block B9 l9 (fun e => hb9 (by injection e with e; exact e.symm))).trans e9; have y0 := (blk_cell e95 0).trans rfl; have f0 : w5.frozen? ⟨B9, 0, none⟩ = false := (by simp [World.frozen?, e95]); have hR5 := Kd.R_grown hR hg5 (fun k hk e => hk.2 (by injection e)); have HB5 := hB4.grown hg5 hB4.size (fun k hk => by injection hk with hk; omega)))
                | go_in)
              have hT := hT.set (j := 0) (u := .int .i64 2) e95
              have hR6 := Kd.R_far (p := ⟨B9, 0, none⟩) hR5 (fun k hk => hk.1) (.int .i64 2)
              have HB6 : Below w.heap.size w (w5.setCell ⟨B9, 0, none⟩ (.int .i64 2)) := below_set HB5 l9b
              have e96 : (w5.setCell ⟨B9, 0, none⟩ (.int .i64 2)).heap[B9]? = some (Obj.cells #[.int .i64 2, .string T, .int .u64 0, .int .i64 (i : Int)] 32 (0, 0)) := blk_put e95 0 _ rfl
              clear hR5 HB5 y0 f0 e95 hg5
              generalize w5.setCell ⟨B9, 0, none⟩ (.int .i64 2) = w6 at *
              have y0 := (blk_cell e96 0).trans rfl
              have y1 := (blk_cell e96 1).trans rfl
              have y2 := (blk_cell e96 2).trans rfl
              have y3 := (blk_cell e96 3).trans rfl
              go_upto_region 22 with (first
                | (at_builtin; go_loud (refine Kd.R_append kTok (w0 := w) w.heap.size rfl (.tmp 83) (.tmp 85) 23 32 (.agg #[.int .i64 0, .string ⟨#[]⟩, .int .u64 0, .int .i64 0]) 40 rfl Tryd.underlying23 infoTok rfl (by decide) (by omega) u4 ts ⟨2, T, 0, i⟩ [.int .i64 2, .string T, .int .u64 0, .int .i64 (i : Int)] (fun _ => True) (fun _ => False) rfl (by first | rfl | (go_simp; done) | (go_simp; rfl)) (kTok_mkM _ _ _ _) (fun _ hk => hk.elim) (fun _ _ => trivial) (Kd.R_mono hR6 (fun _ _ => trivial)) HB6 HB6.size (by omega) ?_; intro v1 w9 hR9 HB9 hg9 hat9))
                | go_in)
              have hT9 := tab_push hT (Kd.R_mono hR6 (ok' := fun _ => True) (fun _ _ => trivial)) hg9
              clear hg9 hat9
              go_wp2
              go_roundw
              case rel => exact ⟨j, m, ts ++ [⟨2, T, 0, i⟩], by first | rfl | go_num, by omega, by omega, hr.out, by rw [List.length_append]; simp; omega, hT9, hR9, HB9⟩
              case measure => simp [intOf]; omega
          | false =>
            rw [if_neg (by rw [hl]; decide)] at hr
            have TL := letter.calls (bt s (i : Int)) wr
            rw [hl] at TL
            cases hd : isDigit (bt s (i : Int)) with
            | true =>
              rw [if_pos hd] at hr
              have hlt := runS_lt (p := isDigit) his hd
              have TR := fun (wx : World) => run_digit.calls s i wx (by omega) (by omega)
              have TD : ∀ wx : World, Calls Tryd.prog 22 #[.int .u8 (bt s (i : Int))] wx fun e w' => e = .returned (.bool true) ∧ Below wx.heap.size wx w' := fun wx => by
                have := digit.calls (bt s (i : Int)) wx
                rw [hd] at this
                exact this
              generalize hj : runS isDigit s i = j at hr hlt TR
              replace hj := Aside0.mk hj
              clear h35 hb1 hb2 hb3 hb4 hl hd
              generalize bt s (i : Int) = c at hbt hc1 hc2 hc3 hc4 hc5 hcr TL TD ⊢
              have hji : ((i : Int) ≤ (j : Int)) := by omega
              have hjs : ((j : Int) ≤ (s.size : Int)) := by omega
              have TN := fun (wx : World) => number.calls (s.extract i j) wx (by rw [ByteArray.size_extract]; omega)
              generalize hnn : numS (s.extract i j) = nn at hr TN
              obtain ⟨nv, nb⟩ := nn
              replace hnn := Aside0.mk hnn
              simp only at hr TN
              have TJ := fun (wx : World) => letter.calls (bt s (j : Int)) wx
              have hbj : ∀ h : j < s.size, ((s[j]'h).toNat : Int) = bt s (j : Int) := fun h => bt_at s (j : Int) (by simpa using h)
              have hj0 : (0 : Int) ≤ (j : Int) := by omega
              replace hr := Aside0.mk hr
              replace TR := Aside0.mk TR
              replace TD := Aside0.mk TD
              replace TN := Aside0.mk TN
              replace TJ := Aside0.mk TJ
              go_upto_region 25 with (first
                | (go_at_call 20; refine TL.mono ?_; rintro e w2 ⟨rfl, hb2⟩)
                | (go_at_call 22; refine (TD.out w2).mono ?_; rintro e w3 ⟨rfl, hb3⟩)
                | (go_at_call 18; refine (TR.out w3).mono ?_; rintro e w4 ⟨rfl, hb4⟩)
                | (go_at_call 24; refine (TN.out w4).mono ?_; rintro e w5 ⟨rfl, hb5⟩)
                | go_in)
              have hb25 := ((hb2.trans (hb3.mono hb2.size)).trans (hb4.mono (hb2.trans (hb3.mono hb2.size)).size))
              have hb25 := hb25.trans (hb5.mono hb25.size)
              have hT := hT.below hb25
              have hR := Kd.R_below hR hb25
              have hB := hB.trans (hb25.mono hB.size)
              clear hb2 hb3 hb4 hb5 hb25 TL TR TD TN
              have hr := hr.out
              cases nb with
              | false =>
                rw [if_pos (.inl rfl)] at hr
                replace hr := Aside0.mk hr
                clear hT hR
                go_wp2_with (first | (go_at_call 17; refine (As.wrap.calls 35 (.int .i64 1) (i : Int) _).mono ?_; rintro e w8 ⟨rfl, rfl⟩))
                refine bodyPost_ret (v := .tuple #[.slice none 0 0, .iface 66 (.pointer (some ⟨_, 0, none⟩))]) (by simp [results, Tryd.results10, go_sem]; first | rfl | exact ⟨rfl, rfl⟩) rfl ?_
                show CutR w res _ _
                rw [hr.out]
                exact ⟨below_alloc hB _, _, rfl, ⟨⟨_, rfl, by simp, by simp⟩⟩⟩
              | true =>
                by_cases hjl : j < s.size
                · have hjli : (j : Int) < (s.size : Int) := by omega
                  cases hlj : isLetter (bt s (j : Int)) with
                  | true =>
                    rw [if_pos (.inr ⟨hjl, hlj⟩)] at hr
                    replace hr := Aside0.mk hr
                    have TJ := TJ.out
                    rw [hlj] at TJ
                    replace TJ := Aside0.mk TJ
                    go_wp2_with (first | (go_at_call 20; refine (TJ.out w5).mono ?_; rintro e w6 ⟨rfl, hb6⟩; have hT := hT.below hb6; have hR := Kd.R_below hR hb6; have hB := hB.trans (hb6.mono hB.size)) | (go_at_call 17; refine (As.wrap.calls 35 (.int .i64 1) (i : Int) _).mono ?_; rintro e w8 ⟨rfl, rfl⟩))
                    refine bodyPost_ret (v := .tuple #[.slice none 0 0, .iface 66 (.pointer (some ⟨_, 0, none⟩))]) (by simp [results, Tryd.results10, go_sem]; first | rfl | exact ⟨rfl, rfl⟩) rfl ?_
                    show CutR w res _ _
                    rw [hr.out]
                    exact ⟨below_alloc hB _, _, rfl, ⟨⟨_, rfl, by simp, by simp⟩⟩⟩
                  | false =>
                    rw [if_neg (by rintro (h | ⟨_, h⟩); exact absurd h (by decide); rw [hlj] at h; cases h)] at hr
                    replace hr := Aside0.mk hr
                    have TJ := TJ.out
                    rw [hlj] at TJ
                    replace TJ := Aside0.mk TJ
                    go_upto_region 28 with (first
                      | (go_at_call 20; refine (TJ.out w5).mono ?_; rintro e w6 ⟨rfl, hb6⟩; have hT := hT.below hb6; have hR := Kd.R_below hR hb6; have hB := hB.trans (hb6.mono hB.size))
                      | (at_builtin; go_loud (refine Kd.R_append kTok (w0 := w) w.heap.size rfl (.tmp 119) (.tmp 127) 23 32 (.agg #[.int .i64 0, .string ⟨#[]⟩, .int .u64 0, .int .i64 0]) 40 rfl Tryd.underlying23 infoTok rfl (by decide) (by omega) u4 ts ⟨3, s.extract i j, nv, i⟩ [.int .i64 3, .string (s.extract i j), .int .u64 nv, .int .i64 (i : Int)] (fun _ => True) (fun _ => False) rfl (by first | rfl | (go_simp; done) | (go_simp; rfl)) (kTok_mkM _ _ _ _) (fun _ hk => hk.elim) (fun _ _ => trivial) hR hB hB.size (by omega) ?_; intro v1 w9 hR9 HB9 hg9 hat9))
                      | go_in)
                    have hT9 := tab_push hT hR hg9
                    clear hg9 hat9
                    go_wp2
                    go_roundw
                    case rel => exact ⟨j, m, ts ++ [⟨3, s.extract i j, nv, i⟩], by first | rfl | go_num, by omega, by omega, hr.out, by rw [List.length_append]; simp; omega, hT9, hR9, HB9⟩
                    case measure => simp [intOf]; omega
                · have hjli : ¬ (j : Int) < (s.size : Int) := by omega
                  rw [if_neg (by rintro (h | ⟨h, _⟩); exact absurd h (by decide); exact hjl h)] at hr
                  replace hr := Aside0.mk hr
                  clear TJ
                  go_upto_region 28 with (first
                    | (at_builtin; go_loud (refine Kd.R_append kTok (w0 := w) w.heap.size rfl (.tmp 119) (.tmp 127) 23 32 (.agg #[.int .i64 0, .string ⟨#[]⟩, .int .u64 0, .int .i64 0]) 40 rfl Tryd.underlying23 infoTok rfl (by decide) (by omega) u4 ts ⟨3, s.extract i j, nv, i⟩ [.int .i64 3, .string (s.extract i j), .int .u64 nv, .int .i64 (i : Int)] (fun _ => True) (fun _ => False) rfl (by first | rfl | (go_simp; done) | (go_simp; rfl)) (kTok_mkM _ _ _ _) (fun _ hk => hk.elim) (fun _ _ => trivial) hR hB hB.size (by omega) ?_; intro v1 w9 hR9 HB9 hg9 hat9))
                    | go_in)
                  have hT9 := tab_push hT hR hg9
                  clear hg9 hat9
                  go_wp2
                  go_roundw
                  case rel => first | exact ⟨j, rfl, by omega, m, by omega, ts ++ [⟨3, s.extract i j, nv, i⟩], hr.out, (show _ ≤ _ by rw [List.length_append]; simp; omega), hT9, hR9⟩ | exact ⟨j, m, ts ++ [⟨3, s.extract i j, nv, i⟩], by first | rfl | go_num, by omega, by omega, hr.out, by rw [List.length_append]; simp; omega, hT9, hR9, HB9⟩
                  case measure => simp [intOf]; omega
            | false =>
              rw [if_neg (by rw [hd]; decide)] at hr
              have TS := fun (wx : World) => sign.calls s i wx (by omega) his
              have TD : ∀ wx : World, Calls Tryd.prog 22 #[.int .u8 (bt s (i : Int))] wx fun e w' => e = .returned (.bool false) ∧ Below wx.heap.size wx w' := fun wx => by
                have := digit.calls (bt s (i : Int)) wx
                rw [hd] at this
                exact this
              have hfit := sign_fit s i his
              generalize signS s i = G at hr TS hfit
              clear h35 hb1 hb2 hb3 hb4 hl hd
              generalize bt s (i : Int) = c at *
              have hwG : wrap64 ((i : Int) + (G.size : Int)) = ((i + G.size : Nat) : Int) := by rw [wrap_in (by omega) (by omega)]; rfl
              replace hr := Aside0.mk hr
              replace TS := Aside0.mk TS
              replace TD := Aside0.mk TD
              go_upto_region 9 with (first
                | (go_at_call 20; refine TL.mono ?_; rintro e w2 ⟨rfl, hb2⟩)
                | (go_at_call 22; refine (TD.out w2).mono ?_; rintro e w3 ⟨rfl, hb3⟩)
                | (go_at_call 25; refine (TS.out w3).mono ?_; rintro e w5 ⟨rfl, hb4⟩)
                | go_in)
              have hb25 := ((hb2.trans (hb3.mono hb2.size)).trans (hb4.mono (hb2.trans (hb3.mono hb2.size)).size))
              have hT := hT.below hb25
              have hR := Kd.R_below hR hb25
              have hB := hB.trans (hb25.mono hB.size)
              clear hb2 hb3 hb4 hb25 TL TD TS
              have hr := hr.out
              by_cases hz : G.size = 0
              · rw [if_pos hz] at hr
                have hG : G = ⟨#[]⟩ := by
                  cases G with
                  | mk d =>
                    have : d.size = 0 := hz
                    congr 1
                    exact Array.size_eq_zero_iff.mp this
                have hsb : (G.toList == ([] : List UInt8)) = true := by rw [hG]; simp
                replace hr := Aside0.mk hr
                replace hG := Aside0.mk hG
                clear hT hR
                go_wp2_with (first | (go_at_call 17; refine (As.wrap.calls 35 (.int .i64 1) (i : Int) _).mono ?_; rintro e w8 ⟨rfl, rfl⟩))
                refine bodyPost_ret (v := .tuple #[.slice none 0 0, .iface 66 (.pointer (some ⟨_, 0, none⟩))]) (by simp [results, Tryd.results10, go_sem]; first | rfl | exact ⟨rfl, rfl⟩) rfl ?_
                show CutR w res _ _
                rw [hr.out]
                exact ⟨below_alloc hB _, _, rfl, ⟨⟨_, rfl, by simp, by simp⟩⟩⟩
              · rw [if_neg hz] at hr
                have hsb : (G.toList == ([] : List UInt8)) = false := by
                  rw [show ([] : List UInt8) = (⟨#[]⟩ : ByteArray).toList by simp, same_b]
                  exact decide_eq_false (fun e => hz (by rw [e]; rfl))
                replace hr := Aside0.mk hr
                go_upto_region 28 with (first
                  | (at_builtin; go_loud (refine Kd.R_append kTok (w0 := w) w.heap.size rfl (.tmp 34) (.tmp 38) 23 32 (.agg #[.int .i64 0, .string ⟨#[]⟩, .int .u64 0, .int .i64 0]) 40 rfl Tryd.underlying23 infoTok rfl (by decide) (by omega) u4 ts ⟨4, G, 0, i⟩ [.int .i64 4, .string G, .int .u64 0, .int .i64 (i : Int)] (fun _ => True) (fun _ => False) rfl (by first | rfl | (go_simp; done) | (go_simp; rfl)) (kTok_mkM _ _ _ _) (fun _ hk => hk.elim) (fun _ _ => trivial) hR hB hB.size (by omega) ?_; intro v1 w9 hR9 HB9 hg9 hat9))
                  | go_in)
                have hT9 := tab_push hT hR hg9
                clear hg9 hat9
                go_wp2
                go_roundw
                case rel => first | exact ⟨i + G.size, by push_cast; rfl, by omega, m, by omega, ts ++ [⟨4, G, 0, i⟩], hr.out, by rw [List.length_append]; simp; omega, hT9, hR9⟩ | exact ⟨i + G.size, by simp, by omega, m, by omega, ts ++ [⟨4, G, 0, i⟩], hr.out, by rw [List.length_append]; simp; omega, hT9, hR9⟩ | exact ⟨i + G.size, m, ts ++ [⟨4, G, 0, i⟩], by first | rfl | go_num, by omega, by omega, hr.out, by rw [List.length_append]; simp; omega, hT9, hR9, HB9⟩
                case measure => simp [intOf]; omega
    · have hii : ¬ (i : Int) < (s.size : Int) := by omega
      rw [if_neg his] at hr
      replace hr := Aside0.mk hr
      clear hT
      go_wp2_with (first
        | (at_builtin; go_loud (refine Kd.R_append kTok (w0 := w) w.heap.size rfl (.tmp 130) (.tmp 134) 23 32 (.agg #[.int .i64 0, .string ⟨#[]⟩, .int .u64 0, .int .i64 0]) 40 rfl Tryd.underlying23 infoTok rfl (by decide) (by omega) u4 ts ⟨0, ⟨#[]⟩, 0, s.size⟩ [.int .i64 0, .string ⟨#[]⟩, .int .u64 0, .int .i64 (s.size : Int)] (fun _ => True) (fun _ => False) rfl (by first | rfl | (go_simp; done) | (go_simp; rfl)) (kTok_mkM _ _ _ _) (fun _ hk => hk.elim) (fun _ _ => trivial) hR hB hB.size (by omega) ?_; intro v1 w3 hR3 HB3 hg3 hat3; obtain ⟨A3, c3, rfl, hc3, hC3⟩ := Kd.R_reads hR3)))
      refine bodyPost_ret (v := .tuple #[.slice A3 (ts ++ [(⟨0, ⟨#[]⟩, 0, s.size⟩ : Tok)]).length c3, .nilIface]) (by simp [results, Tryd.results10, go_sem]) rfl ?_
      show CutR w res _ _
      rw [hr.out]
      exact ⟨HB3, A3, c3, rfl, hc3, hC3, hR3⟩
theorem cut.calls (s : ByteArray) (w : World) (hs : s.size ≤ 65536) : Calls Tryd.prog 10 #[.string s] w (CutP w (cutS s (s.size + 1) 0 [])) := by
  refine (cutR.calls s w hs).mono fun e w' h => ⟨h.1, ?_⟩
  have h2 := h.2
  revert h2
  cases cutS s (s.size + 1) 0 [] with
  | inl ts => exact fun ⟨A, c, h1, h2, h3, _⟩ => ⟨A, c, h1, h2, h3⟩
  | inr a => exact id
end Go.Proofs.YtmklkkpeolnjbaaDoor.Lex
