/-
The law's next, skip, value, key: what a text's next token is. Conditions: as each theorem states them.
-/
import Derived.Test.YtmklkkpeolnjbaaDoorMAgain
import Derived.Test.YtmklkkpeolnjbaaDoorMLKeys
set_option linter.unusedVariables false
set_option linter.unusedSimpArgs false
namespace Go.Proofs.YtmklkkpeolnjbaaDoor.Lex
open Go.RowKit Go.Proofs.YtmklkkpeolnjbaaDoorW.PrintWords Go.Proofs.YtmklkkpeolnjbaaDoorW.PrintLast Go.Proofs.YtmklkkpeolnjbaaDoorW.PrintMore
open Go.Proofs.YtmklkkpeolnjbaaDoor.Kit Go.ChangeMaps Go.MapKept
open Go.Proofs.YtmklkkpeolnjbaaDoor.PLexCut
theorem letterL_is (c : Int) : tautochronelaw03_letter.f c = some (isLetter c) := by
  unfold tautochronelaw03_letter.f isLetter
  split
  · split
    · rw [decide_eq_true ⟨by assumption, by assumption⟩]; rfl
    · rw [decide_eq_false (by omega), Bool.false_or]; rfl
  · rw [decide_eq_false (by omega), Bool.false_or]; rfl
theorem digitL_is (c : Int) : tautochronelaw03_digit.f c = some (isDigit c) := by
  unfold tautochronelaw03_digit.f isDigit
  split
  · by_cases h : c ≤ 57
    · rw [decide_eq_true h, decide_eq_true ⟨by assumption, h⟩]
    · rw [decide_eq_false h, decide_eq_false (by omega)]
  · rw [decide_eq_false (by omega)]
theorem blankL_is (c : Int) : tautochronelaw03_blank.f c = some (isBlank c) := by
  unfold tautochronelaw03_blank.f isBlank
  by_cases h1 : c = 32
  · subst h1; rfl
  · by_cases h2 : c = 9
    · subst h2; rfl
    · by_cases h3 : c = 10
      · subst h3; rfl
      · by_cases h4 : c = 13
        · subst h4; rfl
        · rw [decide_eq_false (by omega)]
          simp [h1, h2, h3, h4]
theorem letterL.calls (c : Int) (w : World) : Calls Tryd.prog 27 #[.int .u8 c] w fun e w' => e = .returned (.bool (isLetter c)) ∧ Below w.heap.size w w' :=
  (tautochronelaw03_letter.calls c _ w (letterL_is c)).mono fun _ _ ⟨h1, h2⟩ => ⟨h1, h2.below⟩
theorem digitL.calls (c : Int) (w : World) : Calls Tryd.prog 28 #[.int .u8 c] w fun e w' => e = .returned (.bool (isDigit c)) ∧ Below w.heap.size w w' :=
  (tautochronelaw03_digit.calls c _ w (digitL_is c)).mono fun _ _ ⟨h1, h2⟩ => ⟨h1, h2.below⟩
/-! ### value -/
theorem valL_l0 (s : ByteArray) (hs : s.size ≤ 1000000) (hd : ∀ j : Nat, j < s.size → isDigit (bt s (j : Int)) = true) : ∀ (m i : Nat) (n : Int), i + m = s.size → ∃ k, tautochronelaw03_value.l0 k s n (i : Int) = some (numL s m n i)
  | 0, i, n, h => ⟨1, by rw [tautochronelaw03_value.l0, if_neg (by omega)]; rfl⟩
  | m + 1, i, n, h => by
    have hc := of_decide_eq_true (hd i (by omega))
    generalize hcc : bt s (i : Int) = c at hc
    have e1 : (c - 48) % 256 = c - 48 := by omega
    by_cases h1 : n > (18446744073709551615 - (c - 48)) / 10
    · refine ⟨1, ?_⟩
      rw [tautochronelaw03_value.l0, if_pos (by omega), if_pos (by omega), numL, hcc, e1, if_pos h1]
      by_cases h2 : n > 1844674407370955161
      · rw [if_pos h2]
      · rw [if_neg h2, if_pos (by omega), if_pos (by omega)]
    · obtain ⟨k, hk⟩ := valL_l0 s hs hd m (i + 1) (IntKind.u64.wrap (IntKind.u64.wrap (n * 10) + (c - 48))) (by omega)
      refine ⟨k + 1, ?_⟩
      rw [tautochronelaw03_value.l0, if_pos (by omega), if_pos (by omega), numL, hcc, e1, if_neg h1, if_neg (by omega), nxtL i (by omega), hk]
      by_cases h2 : n = 1844674407370955161
      · rw [if_pos h2, if_neg (by omega)]
      · rw [if_neg h2]
theorem valueL.calls (s : ByteArray) (w : World) (hs : s.size ≤ 1000000) (hd : ∀ j : Nat, j < s.size → isDigit (bt s (j : Int)) = true) : Calls Tryd.prog 29 #[.string s] w fun e w' => e = .returned (.tuple #[.int .u64 (numS s).1, .bool (numS s).2]) ∧ Below w.heap.size w w' := by
  obtain ⟨k, hk⟩ := valL_l0 s hs hd s.size 0 0 (by omega)
  exact (tautochronelaw03_value.calls k s (numS s).1 (numS s).2 w hk).mono fun _ _ ⟨h1, h2⟩ => ⟨h1, h2.below⟩
theorem runS_end {p : Int → Bool} {s : ByteArray} : ∀ (m i : Nat), s.size - i = m → i ≤ s.size → runS p s i < s.size → p (bt s (runS p s i : Int)) = false
  | 0, i, h, hi, hh => by rw [runS_off (fun h => by omega)] at hh; omega
  | m + 1, i, h, hi, hh => by
    by_cases hp : p (bt s (i : Int)) = true
    · rw [runS_on (by omega) hp] at hh ⊢
      exact runS_end m (i + 1) (by omega) (by omega) hh
    · rw [runS_off (fun h => hp h.2)]
      exact Bool.eq_false_iff.mpr hp
/-! ### skip -/
theorem isLine_off {c : Int} (h : isLine c = false) : c = 10 := by
  unfold isLine at h
  simpa using h
theorem skip_l1 (s : ByteArray) (hs : s.size ≤ 1000000) (e : Nat) (he : e ≤ s.size) (hoff : e < s.size → bt s (e : Int) = 10) (k0 : Nat) (r : Int) (h0 : tautochronelaw03_skip.l0 k0 s (e : Int) = some r) : ∀ (d i : Nat), e - i = d → i ≤ e → (∀ j : Nat, i ≤ j → j < e → bt s (j : Int) ≠ 10) → tautochronelaw03_skip.l1 (k0 + d + 1) s (i : Int) = some r
  | 0, i, h, hi, hp => by
    obtain rfl : i = e := by omega
    rw [tautochronelaw03_skip.l1]
    by_cases hh : i < s.size
    · rw [if_pos (by omega), if_pos (by omega), if_pos (hoff hh)]; exact h0
    · rw [if_neg (by omega)]; exact h0
  | d + 1, i, h, hi, hp => by
    rw [tautochronelaw03_skip.l1, if_pos (by omega), if_pos (by omega), if_neg (hp i (Nat.le_refl _) (by omega)), nxtL i (by omega)]
    exact skip_l1 s hs e he hoff k0 r h0 d (i + 1) (by omega) (by omega) (fun j h1 h2 => hp j (by omega) h2)
theorem cutS_fuel (s : ByteArray) : ∀ (n i : Nat) (acc : List Tok) (m m' : Nat), s.size - i ≤ n → s.size - i < m → s.size - i < m' → cutS s m i acc = cutS s m' i acc
  | n, i, acc, m + 1, m' + 1, hn, h1, h2 => by
    rw [cutS, cutS]
    by_cases his : i < s.size
    · rw [if_pos his, if_pos his]
      obtain ⟨n, rfl⟩ : ∃ k, n = k + 1 := ⟨n - 1, by omega⟩
      cases hst : stepS s i with
      | on j =>
        have := step_on his hst
        exact cutS_fuel s n j acc m m' (by omega) (by omega) (by omega)
      | tok t j =>
        have := step_tok his hst
        exact cutS_fuel s n j _ m m' (by omega) (by omega) (by omega)
      | bad => rfl
    · rw [if_neg his, if_neg his]
  | n, i, acc, 0, m', hn, h1, h2 => by omega
  | n, i, acc, m + 1, 0, hn, h1, h2 => by omega
def Stays (s : ByteArray) (i : Nat) : Prop := ∀ j, stepS s i ≠ .on j
theorem skip_is (s : ByteArray) (hs : s.size ≤ 1000000) : ∀ (n i : Nat), s.size - i ≤ n → i ≤ s.size → ∃ k j : Nat, tautochronelaw03_skip.l0 k s (i : Int) = some (j : Int) ∧ i ≤ j ∧ j ≤ s.size ∧ (j < s.size → Stays s j) ∧
    ∀ (m : Nat) (acc : List Tok), s.size - i < m → ∃ m', s.size - j < m' ∧ cutS s m i acc = cutS s m' j acc
  | n, i, hn, hi => by
    by_cases his : i < s.size
    · obtain ⟨n, rfl⟩ : ∃ k, n = k + 1 := ⟨n - 1, by omega⟩
      by_cases hb : isBlank (bt s (i : Int)) = true
      · obtain ⟨k, j, h1, h2, h3, h4, h5⟩ := skip_is s hs n (i + 1) (by omega) (by omega)
        have hne : bt s (i : Int) ≠ 35 := by
          have := of_decide_eq_true hb
          omega
        refine ⟨k + 2, j, ?_, by omega, h3, h4, fun m acc hm => ?_⟩
        · rw [tautochronelaw03_skip.l0, if_pos (by omega), if_pos (by omega), blankL_is, hb, Option.bind_some, if_pos rfl, tautochronelaw03_skip.j1, if_pos rfl, if_pos (by omega), if_pos (by omega), if_neg hne, nxtL i (by omega)]
          exact h1
        · obtain ⟨m, rfl⟩ : ∃ k, m = k + 1 := ⟨m - 1, by omega⟩
          obtain ⟨m', e1, e2⟩ := h5 m acc (by omega)
          refine ⟨m', e1, ?_⟩
          rw [cutS, if_pos his, show stepS s i = .on (i + 1) by unfold stepS; rw [if_pos hb]]
          exact e2
      · by_cases h35 : bt s (i : Int) = 35
        · have hl := runS_lt (p := isLine) his (by rw [h35]; rfl)
          obtain ⟨k, j, h1, h2, h3, h4, h5⟩ := skip_is s hs n (runS isLine s i) (by omega) (by omega)
          have hst : stepS s i = .on (runS isLine s i) := by unfold stepS; rw [if_neg hb, if_pos h35]
          refine ⟨k + (runS isLine s i - i) + 1 + 2, j, ?_, by omega, h3, h4, fun m acc hm => ?_⟩
          · rw [tautochronelaw03_skip.l0, if_pos (by omega), if_pos (by omega), blankL_is, Bool.eq_false_iff.mpr hb, Option.bind_some, if_neg (by decide), h35, show ((35 : Int) == 35) = true from rfl, tautochronelaw03_skip.j1, if_pos rfl, if_pos (by omega), if_pos (by omega), if_pos h35]
            refine skip_l1 s hs (runS isLine s i) hl.2 (fun hh => ?_) k _ h1 _ i rfl (by omega) (fun q q1 q2 => ?_)
            · have hoff := runS_end (p := isLine) (s := s) _ i rfl (by omega) hh
              exact isLine_off hoff
            · have := runS_in (p := isLine) _ i rfl (by omega) q q1 q2
              unfold isLine at this
              simpa using this
          · obtain ⟨m, rfl⟩ : ∃ k, m = k + 1 := ⟨m - 1, by omega⟩
            obtain ⟨m', e1, e2⟩ := h5 m acc (by omega)
            refine ⟨m', e1, ?_⟩
            rw [cutS, if_pos his, hst]
            exact e2
        · refine ⟨2, i, ?_, Nat.le_refl _, hi, fun _ j hj => ?_, fun m acc hm => ⟨m, hm, rfl⟩⟩
          · rw [tautochronelaw03_skip.l0, if_pos (by omega), if_pos (by omega), blankL_is, Bool.eq_false_iff.mpr hb, Option.bind_some, if_neg (by decide), beq_eq_false_iff_ne.mpr h35, tautochronelaw03_skip.j1, if_neg (by decide)]
          · unfold stepS at hj
            rw [if_neg hb, if_neg h35] at hj
            split at hj
            · cases hj
            · split at hj
              · split at hj <;> cases hj
              · split at hj <;> cases hj
    · refine ⟨2, i, ?_, Nat.le_refl _, hi, fun h => absurd h his, fun m acc hm => ⟨m, hm, rfl⟩⟩
      rw [tautochronelaw03_skip.l0, if_neg (by omega), tautochronelaw03_skip.j1, if_neg (by decide)]
theorem skip.calls (s : ByteArray) (i : Nat) (w : World) (hs : s.size ≤ 1000000) (hi : i ≤ s.size) : Calls Tryd.prog 11 #[.string s, .int .i64 (i : Int)] w fun e w' => Below w.heap.size w w' ∧ ∃ j : Nat, e = .returned (.int .i64 (j : Int)) ∧ i ≤ j ∧ j ≤ s.size ∧ (j < s.size → Stays s j) ∧
    ∀ (m : Nat) (acc : List Tok), s.size - i < m → ∃ m', s.size - j < m' ∧ cutS s m i acc = cutS s m' j acc := by
  obtain ⟨k, j, h1, h2⟩ := skip_is s hs _ i (Nat.le_refl _) hi
  exact (tautochronelaw03_skip.calls k s (i : Int) (j : Int) w h1).mono fun _ _ ⟨h3, h4⟩ => ⟨h4.below, j, h3, h2⟩
/-! ### next -/
/-- What next hands back. -/
def NextP (w : World) (s : ByteArray) (i : Nat) (e : Ending) (w' : World) : Prop := Below w.heap.size w w' ∧ match stepS s i with
  | .tok t _ => e = .returned (.tuple #[.agg #[.int .i64 t.f0, .string t.f1, .int .u64 t.f2, .int .i64 t.f3], .bool true])
  | _ => ∃ (a c d : Int) (b : ByteArray), e = .returned (.tuple #[.agg #[.int .i64 a, .string b, .int .u64 c, .int .i64 d], .bool false])
def zCells : Array Value := #[.int .i64 0, .string ⟨#[]⟩, .int .u64 0, .int .i64 0]
theorem put4 {w : World} {g : Nat} {a c d : Int} {b : ByteArray} (h : w.heap[g]? = some (Obj.cells zCells 32 (0, 0))) :
    ((((w.setCell ⟨g, 0, none⟩ (.int .i64 a)).setCell ⟨g, 1, none⟩ (.string b)).setCell ⟨g, 2, none⟩ (.int .u64 c)).setCell ⟨g, 3, none⟩ (.int .i64 d)).heap[g]? = some (Obj.cells #[.int .i64 a, .string b, .int .u64 c, .int .i64 d] 32 (0, 0)) := by
  refine blk_put (cs := #[.int .i64 a, .string b, .int .u64 c, .int .i64 0]) ?_ 3 _ rfl
  refine blk_put (cs := #[.int .i64 a, .string b, .int .u64 0, .int .i64 0]) ?_ 2 _ rfl
  refine blk_put (cs := #[.int .i64 a, .string ⟨#[]⟩, .int .u64 0, .int .i64 0]) ?_ 1 _ rfl
  exact blk_put (cs := zCells) h 0 _ rfl
theorem put4_below {w W : World} {g : Nat} {a c d : Int} {b : ByteArray} (h : Below w.heap.size w W) (hg : w.heap.size ≤ g) :
    Below w.heap.size w ((((W.setCell ⟨g, 0, none⟩ (.int .i64 a)).setCell ⟨g, 1, none⟩ (.string b)).setCell ⟨g, 2, none⟩ (.int .u64 c)).setCell ⟨g, 3, none⟩ (.int .i64 d)) :=
  below_set (below_set (below_set (below_set h hg) hg) hg) hg
set_option maxHeartbeats 8000000 in
set_option maxRecDepth 100000 in
theorem next_word (s : ByteArray) (i : Nat) (w : World) (hs : s.size ≤ 1000000) (hi : i < s.size) (hl : isLetter (bt s (i : Int)) = true) : Calls Tryd.prog 12 #[.string s, .int .i64 (i : Int)] w (NextP w s i) := by
  have hst : stepS s i = .tok ⟨if isKey keys (s.extract i (runS isWord s i)) = true then 2 else 1, s.extract i (runS isWord s i), 0, i⟩ (runS isWord s i) := by
    have hn := letter_no hl
    unfold stepS
    rw [if_neg (by rw [hn.1]; decide), if_neg hn.2, if_pos hl]
  have hlt := runS_lt (p := isWord) hi (by unfold isWord; rw [hl]; rfl)
  have hon := runS_on (p := isWord) hi (by unfold isWord; rw [hl]; rfl)
  have hii : (i : Int) < (s.size : Int) := by omega
  have hi0 : (0 : Int) ≤ (i : Int) := by omega
  have hbt : ∀ h : i < s.size, ((s[i]'h).toNat : Int) = bt s (i : Int) := fun h => bt_at s (i : Int) (by simpa using h)
  have hn1 := nxtL i (by omega)
  have TL := fun wx : World => letterL.calls (bt s (i : Int)) wx
  rw [hl] at TL
  generalize hj : runS isWord s i = j at hst hlt hon
  replace hj := Aside0.mk hj
  replace hst := Aside0.mk hst
  generalize bt s (i : Int) = c at hbt TL
  go_enter Tryd.func12, Tryd.ntmps12
  go_upto_region 1 with go_in
  have eG := heap_alloc_new w (Obj.cells zCells 32 (0, 0))
  have hB1 : Below w.heap.size w (w.alloc (Obj.cells zCells 32 (0, 0))) := below_alloc (Below.refl _ _) _
  have hGG : w.heap.size ≤ w.heap.size := Nat.le_refl _
  unfold zCells at hB1 eG
  generalize w.alloc (Obj.cells #[.int .i64 0, .string ⟨#[]⟩, .int .u64 0, .int .i64 0] 32 (0, 0)) = w1 at *
  generalize hGe : w.heap.size = G at eG ⊢
  have hGG : w.heap.size ≤ G := by omega
  clear hGe
  go_wp2_with (first | (go_at_call 27; refine (TL w1).mono ?_; rintro e w2 ⟨rfl, hb2⟩; have eG := (hb2.block G (blk_lt eG)).trans eG; have hB1 := hB1.trans (hb2.mono hB1.size)))
  go_loopw [7] (fun v7 wr => ∃ q : Nat, v7 = .int .i64 q ∧ i < q ∧ q ≤ s.size ∧ Aside0 (runS isWord s q = j) ∧ wr.heap[G]? = some (Obj.cells #[.int .i64 0, .string ⟨#[]⟩, .int .u64 0, .int .i64 0] 32 (0, 0)) ∧ Below w.heap.size w wr) (fun v7 _ => s.size - (intOf v7).toNat)
  case atStart => exact ⟨i + 1, by first | rfl | go_num, by omega, by omega, ⟨hon.symm⟩, eG, hB1⟩
  case round =>
    clear eG hB1 hon hb2 TL hbt hn1
    obtain ⟨q, rfl, hiq, hqz, hrun, eG, hB1⟩ := hrel
    by_cases hqs : q < s.size
    · have hqi : (q : Int) < (s.size : Int) := by omega
      have hq0 : (0 : Int) ≤ (q : Int) := by omega
      have hbt : ∀ h : q < s.size, ((s[q]'h).toNat : Int) = bt s (q : Int) := fun h => bt_at s (q : Int) (by simpa using h)
      have TL := letterL.calls (bt s (q : Int)) wr
      have TD := fun wx : World => digitL.calls (bt s (q : Int)) wx
      have hron := runS_on (p := isWord) (s := s) (i := q) hqs
      have hroff := runS_off (p := isWord) (s := s) (i := q)
      unfold isWord at hron hroff
      replace hrun := hrun.out
      cases hlq : isLetter (bt s (q : Int)) with
      | true =>
        rw [hlq] at TL
        have hr2 := Aside0.mk ((hron (by rw [hlq]; rfl)).symm.trans hrun)
        clear hron hroff hrun hlq
        replace hbt := hbt
        generalize bt s (q : Int) = d at hbt TL TD
        go_wp2_with (first | (go_at_call 27; refine TL.mono ?_; rintro e w3 ⟨rfl, hb3⟩; have eG := (hb3.block G (blk_lt eG)).trans eG; have hB1 := hB1.trans (hb3.mono hB1.size)))
        go_roundw
        case rel => exact ⟨q + 1, by first | rfl | go_num, by omega, by omega, hr2, eG, hB1⟩
        case measure => simp [intOf]; omega
      | false =>
        rw [hlq] at TL
        cases hdq : isDigit (bt s (q : Int)) with
        | true =>
          rw [hdq] at TD
          have hr2 := Aside0.mk ((hron (by rw [hlq, hdq]; rfl)).symm.trans hrun)
          clear hron hroff hrun hlq hdq
          generalize bt s (q : Int) = d at hbt TL TD
          go_wp2_with (first
            | (go_at_call 27; refine TL.mono ?_; rintro e w3 ⟨rfl, hb3⟩; have eG := (hb3.block G (blk_lt eG)).trans eG; have hB1 := hB1.trans (hb3.mono hB1.size))
            | (go_at_call 28; refine (TD w3).mono ?_; rintro e w4 ⟨rfl, hb4⟩; have eG := (hb4.block G (blk_lt eG)).trans eG; have hB1 := hB1.trans (hb4.mono hB1.size)))
          go_roundw
          case rel => exact ⟨q + 1, by first | rfl | go_num, by omega, by omega, hr2, eG, hB1⟩
          case measure => simp [intOf]; omega
        | false =>
          rw [hdq] at TD
          obtain rfl : q = j := (hroff (by rintro ⟨_, h⟩; rw [hlq, hdq] at h; cases h)).symm.trans hrun
          clear hron hroff hrun hlq hdq
          generalize bt s (q : Int) = d at hbt TL TD
          have hiqi : (i : Int) ≤ (q : Int) := by omega
          have hqsi : (q : Int) ≤ (s.size : Int) := by omega
          go_upto_region 5 with (first
            | (go_at_call 27; refine TL.mono ?_; rintro e w3 ⟨rfl, hb3⟩; have eG := (hb3.block G (blk_lt eG)).trans eG; have hB1 := hB1.trans (hb3.mono hB1.size))
            | (go_at_call 28; refine (TD w3).mono ?_; rintro e w4 ⟨rfl, hb4⟩; have eG := (hb4.block G (blk_lt eG)).trans eG; have hB1 := hB1.trans (hb4.mono hB1.size))
            | go_in)
          clear hbt hb3 hb4 TL TD
          have hG8 : G ≠ w4.heap.size := Nat.ne_of_lt (blk_lt eG)
          have hw8 : w.heap.size ≤ w4.heap.size := hB1.size
          obtain ⟨T, hT⟩ : ∃ T, T = s.extract i q := ⟨_, rfl⟩
          replace hst := hst.out
          rw [← hT] at hst
          replace hst := Aside0.mk hst
          go_upto_region 6 with go_in
          simp only [← hT]
          replace hT := Aside0.mk hT
          have e8 := heap_alloc_new w4 (Obj.cells #[.int .i64 1, .string T, .int .u64 0, .int .i64 (i : Int)] 32 (0, 0))
          have hb4 : Below w4.heap.size w4 (w4.alloc (Obj.cells #[.int .i64 1, .string T, .int .u64 0, .int .i64 (i : Int)] 32 (0, 0))) := below_alloc (Below.refl _ _) _
          have eG := (hb4.block G (blk_lt eG)).trans eG
          have hB1 := hB1.trans (hb4.mono hB1.size)
          generalize w4.alloc (Obj.cells #[.int .i64 1, .string T, .int .u64 0, .int .i64 (i : Int)] 32 (0, 0)) = w7 at *
          clear hb4
          generalize w4.heap.size = B8 at *
          have TK := keyL.calls T w7
          have y1 := (blk_cell e8 1).trans rfl
          cases hk : isKey keys T with
          | false =>
            rw [hk] at TK
            have hst := hst.out
            rw [hk, if_neg (by decide)] at hst
            replace hst := Aside0.mk hst
            replace hk := Aside0.mk hk
            go_upto_region 8 with (first | (go_at_call 16; refine TK.mono ?_; rintro e w5 ⟨rfl, hb5⟩) | go_in)
            have eG := (hb5.block G (blk_lt eG)).trans eG
            have e8 := (hb5.block B8 (blk_lt e8)).trans e8
            have hB1 := hB1.trans (hb5.mono hB1.size)
            have y0 := (blk_cell e8 0).trans rfl
            have y1 := (blk_cell e8 1).trans rfl
            have y2 := (blk_cell e8 2).trans rfl
            have y3 := (blk_cell e8 3).trans rfl
            have x0 := (blk_cell eG 0).trans rfl
            have x1 := (blk_cell eG 1).trans rfl
            have x2 := (blk_cell eG 2).trans rfl
            have x3 := (blk_cell eG 3).trans rfl
            have f0 : ∀ k, w5.frozen? ⟨G, k, none⟩ = false := fun k => by simp [World.frozen?, eG]
            clear TK hb5
            go_wp2
            refine bodyPost_ret (results_ct rfl _ _ G 32 #[.int .i64 1, .string T, .int .u64 0, .int .i64 (i : Int)] (0, 0) _ rfl (put4 eG) Tryd.underlying32 rfl (by kernel_rfl)) rfl ?_
            exact ⟨put4_below hB1 hGG, by rw [hst.out]; rfl⟩
          | true =>
            rw [hk] at TK
            have hst := hst.out
            rw [hk, if_pos rfl] at hst
            replace hst := Aside0.mk hst
            replace hk := Aside0.mk hk
            go_upto_region 7 with (first | (go_at_call 16; refine TK.mono ?_; rintro e w5 ⟨rfl, hb5⟩) | go_in)
            have eG := (hb5.block G (blk_lt eG)).trans eG
            have e8 := (hb5.block B8 (blk_lt e8)).trans e8
            have hB1 := hB1.trans (hb5.mono hB1.size)
            have y0 := (blk_cell e8 0).trans rfl
            have f8 : w5.frozen? ⟨B8, 0, none⟩ = false := by simp [World.frozen?, e8]
            have e82 : (w5.setCell ⟨B8, 0, none⟩ (.int .i64 2)).heap[B8]? = some (Obj.cells #[.int .i64 2, .string T, .int .u64 0, .int .i64 (i : Int)] 32 (0, 0)) := blk_put e8 0 _ rfl
            have eG2 : (w5.setCell ⟨B8, 0, none⟩ (.int .i64 2)).heap[G]? = _ := blk_far eG hG8 _
            have hB2 : Below w.heap.size w (w5.setCell ⟨B8, 0, none⟩ (.int .i64 2)) := below_set hB1 hw8
            clear TK hb5
            go_upto_region 8 with go_in
            clear e8 eG hB1 y0 f8
            generalize w5.setCell ⟨B8, 0, none⟩ (.int .i64 2) = w6 at *
            have y0 := (blk_cell e82 0).trans rfl
            have y1 := (blk_cell e82 1).trans rfl
            have y2 := (blk_cell e82 2).trans rfl
            have y3 := (blk_cell e82 3).trans rfl
            have x0 := (blk_cell eG2 0).trans rfl
            have x1 := (blk_cell eG2 1).trans rfl
            have x2 := (blk_cell eG2 2).trans rfl
            have x3 := (blk_cell eG2 3).trans rfl
            have f0 : ∀ k, w6.frozen? ⟨G, k, none⟩ = false := fun k => by simp [World.frozen?, eG2]
            go_wp2
            refine bodyPost_ret (results_ct rfl _ _ G 32 #[.int .i64 2, .string T, .int .u64 0, .int .i64 (i : Int)] (0, 0) _ rfl (put4 eG2) Tryd.underlying32 rfl (by kernel_rfl)) rfl ?_
            exact ⟨put4_below hB2 hGG, by rw [hst.out]; rfl⟩
    · have hqi : ¬ (q : Int) < (s.size : Int) := by omega
      obtain rfl : q = j := (runS_off (fun h => hqs h.1)).symm.trans hrun.out
      clear hrun
      have hiqi : (i : Int) ≤ (q : Int) := by omega
      have hqsi : (q : Int) ≤ (s.size : Int) := by omega
      go_upto_region 5 with go_in
      have hG8 : G ≠ wr.heap.size := Nat.ne_of_lt (blk_lt eG)
      have hw8 : w.heap.size ≤ wr.heap.size := hB1.size
      obtain ⟨T, hT⟩ : ∃ T, T = s.extract i q := ⟨_, rfl⟩
      replace hst := hst.out
      rw [← hT] at hst
      replace hst := Aside0.mk hst
      go_upto_region 6 with go_in
      simp only [← hT]
      replace hT := Aside0.mk hT
      have e8 := heap_alloc_new wr (Obj.cells #[.int .i64 1, .string T, .int .u64 0, .int .i64 (i : Int)] 32 (0, 0))
      have hb4 : Below wr.heap.size wr (wr.alloc (Obj.cells #[.int .i64 1, .string T, .int .u64 0, .int .i64 (i : Int)] 32 (0, 0))) := below_alloc (Below.refl _ _) _
      have eG := (hb4.block G (blk_lt eG)).trans eG
      have hB1 := hB1.trans (hb4.mono hB1.size)
      generalize wr.alloc (Obj.cells #[.int .i64 1, .string T, .int .u64 0, .int .i64 (i : Int)] 32 (0, 0)) = w4 at *
      clear hb4
      generalize wr.heap.size = B8 at *
      have TK := keyL.calls T w4
      have y1 := (blk_cell e8 1).trans rfl
      cases hk : isKey keys T with
      | false =>
        rw [hk] at TK
        have hst := hst.out
        rw [hk, if_neg (by decide)] at hst
        replace hst := Aside0.mk hst
        replace hk := Aside0.mk hk
        go_upto_region 8 with (first | (go_at_call 16; refine TK.mono ?_; rintro e w5 ⟨rfl, hb5⟩) | go_in)
        have eG := (hb5.block G (blk_lt eG)).trans eG
        have e8 := (hb5.block B8 (blk_lt e8)).trans e8
        have hB1 := hB1.trans (hb5.mono hB1.size)
        have y0 := (blk_cell e8 0).trans rfl
        have y1 := (blk_cell e8 1).trans rfl
        have y2 := (blk_cell e8 2).trans rfl
        have y3 := (blk_cell e8 3).trans rfl
        have x0 := (blk_cell eG 0).trans rfl
        have x1 := (blk_cell eG 1).trans rfl
        have x2 := (blk_cell eG 2).trans rfl
        have x3 := (blk_cell eG 3).trans rfl
        have f0 : ∀ k, w5.frozen? ⟨G, k, none⟩ = false := fun k => by simp [World.frozen?, eG]
        clear TK hb5
        go_wp2
        refine bodyPost_ret (results_ct rfl _ _ G 32 #[.int .i64 1, .string T, .int .u64 0, .int .i64 (i : Int)] (0, 0) _ rfl (put4 eG) Tryd.underlying32 rfl (by kernel_rfl)) rfl ?_
        exact ⟨put4_below hB1 hGG, by rw [hst.out]; rfl⟩
      | true =>
        rw [hk] at TK
        have hst := hst.out
        rw [hk, if_pos rfl] at hst
        replace hst := Aside0.mk hst
        replace hk := Aside0.mk hk
        go_upto_region 7 with (first | (go_at_call 16; refine TK.mono ?_; rintro e w5 ⟨rfl, hb5⟩) | go_in)
        have eG := (hb5.block G (blk_lt eG)).trans eG
        have e8 := (hb5.block B8 (blk_lt e8)).trans e8
        have hB1 := hB1.trans (hb5.mono hB1.size)
        have y0 := (blk_cell e8 0).trans rfl
        have f8 : w5.frozen? ⟨B8, 0, none⟩ = false := by simp [World.frozen?, e8]
        have e82 : (w5.setCell ⟨B8, 0, none⟩ (.int .i64 2)).heap[B8]? = some (Obj.cells #[.int .i64 2, .string T, .int .u64 0, .int .i64 (i : Int)] 32 (0, 0)) := blk_put e8 0 _ rfl
        have eG2 : (w5.setCell ⟨B8, 0, none⟩ (.int .i64 2)).heap[G]? = _ := blk_far eG hG8 _
        have hB2 : Below w.heap.size w (w5.setCell ⟨B8, 0, none⟩ (.int .i64 2)) := below_set hB1 hw8
        clear TK hb5
        go_upto_region 8 with go_in
        clear e8 eG hB1 y0 f8
        generalize w5.setCell ⟨B8, 0, none⟩ (.int .i64 2) = w6 at *
        have y0 := (blk_cell e82 0).trans rfl
        have y1 := (blk_cell e82 1).trans rfl
        have y2 := (blk_cell e82 2).trans rfl
        have y3 := (blk_cell e82 3).trans rfl
        have x0 := (blk_cell eG2 0).trans rfl
        have x1 := (blk_cell eG2 1).trans rfl
        have x2 := (blk_cell eG2 2).trans rfl
        have x3 := (blk_cell eG2 3).trans rfl
        have f0 : ∀ k, w6.frozen? ⟨G, k, none⟩ = false := fun k => by simp [World.frozen?, eG2]
        go_wp2
        refine bodyPost_ret (results_ct rfl _ _ G 32 #[.int .i64 2, .string T, .int .u64 0, .int .i64 (i : Int)] (0, 0) _ rfl (put4 eG2) Tryd.underlying32 rfl (by kernel_rfl)) rfl ?_
        exact ⟨put4_below hB2 hGG, by rw [hst.out]; rfl⟩
end Go.Proofs.YtmklkkpeolnjbaaDoor.Lex
