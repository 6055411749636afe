/-
lex.run with each of the three tests that Cut hands to it, and what letters and digits are. Conditions: as each theorem states them.
-/
import Derived.Test.YtmklkkpeolnjbaaDoorMKey
import Derived.Test.YtmklkkpeolnjbaaDoorPLexCutx1
set_option linter.unusedVariables false
set_option linter.unusedSimpArgs false
namespace Go.Proofs.YtmklkkpeolnjbaaDoor.Lex
open Go.RowKit Go.Proofs.YtmklkkpeolnjbaaDoorW.PrintWords Go.Proofs.YtmklkkpeolnjbaaDoorW.PrintLast Go.Proofs.YtmklkkpeolnjbaaDoorW.PrintMore
open Go.Proofs.YtmklkkpeolnjbaaDoor.Kit Go.ChangeMaps Go.MapKept
open Go.Proofs.YtmklkkpeolnjbaaDoor.PLexCut
attribute [local go_sem] max2_int min2_int max_two min_two max_three min_three max_four min_four   -- for this text's walks alone
def isLetter (c : Int) : Bool := decide (97 ≤ c ∧ c ≤ 122) || decide (c = 95)
def isDigit (c : Int) : Bool := decide (48 ≤ c ∧ c ≤ 57)
def isWord (c : Int) : Bool := isLetter c || isDigit c
def isLine (c : Int) : Bool := c != 10
theorem letter_is (c : Int) : lex_letter.f c = some (isLetter c) := by
  unfold lex_letter.f isLetter
  split
  · split
    · rw [decide_eq_true ⟨by assumption, by assumption⟩]; rfl
    · rw [decide_eq_false (by omega), Bool.false_or]; rfl
  · rw [decide_eq_false (by omega), Bool.false_or]; rfl
theorem digit_is (c : Int) : lex_digit.f c = some (isDigit c) := by
  unfold lex_digit.f isDigit
  split
  · by_cases h : c ≤ 57
    · rw [decide_eq_true h, decide_eq_true ⟨by assumption, h⟩]
    · rw [decide_eq_false h, decide_eq_false (by omega)]
  · rw [decide_eq_false (by omega)]
theorem letter.calls (c : Int) (w : World) : Calls Tryd.prog 20 #[.int .u8 c] w fun e w' => e = .returned (.bool (isLetter c)) ∧ Below w.heap.size w w' :=
  (lex_letter.calls c _ w (letter_is c)).mono fun _ _ ⟨h1, h2⟩ => ⟨h1, h2.below⟩
theorem digit.calls (c : Int) (w : World) : Calls Tryd.prog 22 #[.int .u8 c] w fun e w' => e = .returned (.bool (isDigit c)) ∧ Below w.heap.size w w' :=
  (lex_digit.calls c _ w (digit_is c)).mono fun _ _ ⟨h1, h2⟩ => ⟨h1, h2.below⟩
theorem line.calls (c : Int) (w : World) : Calls Tryd.prog 19 #[.int .u8 c] w fun e w' => e = .returned (.bool (isLine c)) ∧ Below w.heap.size w w' := by
  go_enter Tryd.func19, Tryd.ntmps19
  go_wp2
  go_ret
  exact ⟨rfl, Below.refl _ _⟩
theorem word.calls (c : Int) (w : World) : Calls Tryd.prog 21 #[.int .u8 c] w fun e w' => e = .returned (.bool (isWord c)) ∧ Below w.heap.size w w' := by
  cases hl : isLetter c with
  | true =>
    have TL := letter.calls c w
    rw [hl] at TL
    go_enter Tryd.func21, Tryd.ntmps21
    go_wp2_with (first | (go_at_call 20; refine TL.mono ?_; rintro e w1 ⟨rfl, hb1⟩))
    go_ret
    exact ⟨by unfold isWord; rw [hl]; rfl, hb1⟩
  | false =>
    have TL := letter.calls c w
    rw [hl] at TL
    go_enter Tryd.func21, Tryd.ntmps21
    go_wp2_with (first
      | (go_at_call 20; refine TL.mono ?_; rintro e w1 ⟨rfl, hb1⟩)
      | (go_at_call 22; refine (digit.calls c w1).mono ?_; rintro e w2 ⟨rfl, hb2⟩))
    go_ret
    exact ⟨by unfold isWord; rw [hl]; rfl, hb1.trans (hb2.mono hb1.size)⟩
/-- Where bytes that are so end. -/
def runS (p : Int → Bool) (s : ByteArray) (i : Nat) : Nat := if h : i < s.size ∧ p (bt s i) = true then runS p s (i + 1) else i
termination_by s.size - i
theorem runS_on {p : Int → Bool} {s : ByteArray} {i : Nat} (h : i < s.size) (hp : p (bt s i) = true) : runS p s i = runS p s (i + 1) := by
  rw [runS, dif_pos ⟨h, hp⟩]
theorem runS_off {p : Int → Bool} {s : ByteArray} {i : Nat} (h : ¬ (i < s.size ∧ p (bt s i) = true)) : runS p s i = i := by
  rw [runS, dif_neg h]
set_option maxHeartbeats 4000000 in
set_option maxRecDepth 100000 in
theorem run_line.calls (s : ByteArray) (at_ : Nat) (w : World) (hs : s.size ≤ 1000000) (ha : at_ ≤ s.size) :
    Calls Tryd.prog 18 #[.string s, .int .i64 (at_ : Int), .func (.func 19) #[] #[]] w fun e w' => e = .returned (.int .i64 (runS isLine s at_ : Int)) ∧ Below w.heap.size w w' := by
  go_enter Tryd.func18, Tryd.ntmps18
  go_wp2
  go_loopw [1] (fun v1 wr => ∃ q : Nat, v1 = .int .i64 q ∧ q ≤ s.size ∧ runS isLine s q = runS isLine s at_ ∧ Below w.heap.size w wr) (fun v1 _ => s.size - (intOf v1).toNat)
  case atStart => exact ⟨at_, rfl, ha, rfl, Below.refl _ _⟩
  case round =>
    obtain ⟨q, rfl, hq, hr, hB⟩ := hrel
    by_cases hqs : q < s.size
    · have hqi : (q : Int) < (s.size : Int) := by omega
      have hq0 : (0 : Int) ≤ (q : Int) := by omega
      have hbt : ∀ h : q < s.size, ((s[q]'h).toNat : Int) = bt s (q : Int) := fun h => bt_at s (q : Int) (by simpa using h)
      cases hp : isLine (bt s (q : Int)) with
      | true =>
        have hr2 := (runS_on hqs hp).symm.trans hr
        have TF := line.calls (bt s (q : Int)) wr
        rw [hp] at TF
        replace hr := Aside0.mk hr2
        clear hr2
        go_wp2_with (first | (go_at_call 19; refine TF.mono ?_; rintro e w1 ⟨rfl, hb1⟩))
        go_roundw
        case rel => exact ⟨q + 1, by first | rfl | go_num, by omega, hr.out, hB.trans (hb1.mono hB.size)⟩
        case measure => simp [intOf]; omega
      | false =>
        have hr2 := (runS_off (fun h => by rw [hp] at h; cases h.2)).symm.trans hr
        have TF := line.calls (bt s (q : Int)) wr
        rw [hp] at TF
        clear hr
        replace hr2 := Aside0.mk hr2
        go_wp2_with (first | (go_at_call 19; refine TF.mono ?_; rintro e w1 ⟨rfl, hb1⟩))
        refine bodyPost_ret (v := .int .i64 (q : Int)) (by simp [results, Tryd.results18, go_sem]) rfl ⟨by rw [← hr2.out], hB.trans (hb1.mono hB.size)⟩
    · have hqi : ¬ (q : Int) < (s.size : Int) := by omega
      have hr2 := (runS_off (fun h => hqs h.1)).symm.trans hr
      clear hr
      replace hr2 := Aside0.mk hr2
      go_wp2
      refine bodyPost_ret (v := .int .i64 (q : Int)) (by simp [results, Tryd.results18, go_sem]) rfl ⟨by rw [← hr2.out], hB⟩
set_option maxHeartbeats 4000000 in
set_option maxRecDepth 100000 in
theorem run_word.calls (s : ByteArray) (at_ : Nat) (w : World) (hs : s.size ≤ 1000000) (ha : at_ ≤ s.size) :
    Calls Tryd.prog 18 #[.string s, .int .i64 (at_ : Int), .func (.func 21) #[] #[]] w fun e w' => e = .returned (.int .i64 (runS isWord s at_ : Int)) ∧ Below w.heap.size w w' := by
  go_enter Tryd.func18, Tryd.ntmps18
  go_wp2
  go_loopw [1] (fun v1 wr => ∃ q : Nat, v1 = .int .i64 q ∧ q ≤ s.size ∧ runS isWord s q = runS isWord s at_ ∧ Below w.heap.size w wr) (fun v1 _ => s.size - (intOf v1).toNat)
  case atStart => exact ⟨at_, rfl, ha, rfl, Below.refl _ _⟩
  case round =>
    obtain ⟨q, rfl, hq, hr, hB⟩ := hrel
    by_cases hqs : q < s.size
    · have hqi : (q : Int) < (s.size : Int) := by omega
      have hq0 : (0 : Int) ≤ (q : Int) := by omega
      have hbt : ∀ h : q < s.size, ((s[q]'h).toNat : Int) = bt s (q : Int) := fun h => bt_at s (q : Int) (by simpa using h)
      cases hp : isWord (bt s (q : Int)) with
      | true =>
        have hr2 := (runS_on hqs hp).symm.trans hr
        have TF := word.calls (bt s (q : Int)) wr
        rw [hp] at TF
        replace hr := Aside0.mk hr2
        clear hr2
        go_wp2_with (first | (go_at_call 21; refine TF.mono ?_; rintro e w1 ⟨rfl, hb1⟩))
        go_roundw
        case rel => exact ⟨q + 1, by first | rfl | go_num, by omega, hr.out, hB.trans (hb1.mono hB.size)⟩
        case measure => simp [intOf]; omega
      | false =>
        have hr2 := (runS_off (fun h => by rw [hp] at h; cases h.2)).symm.trans hr
        have TF := word.calls (bt s (q : Int)) wr
        rw [hp] at TF
        clear hr
        replace hr2 := Aside0.mk hr2
        go_wp2_with (first | (go_at_call 21; refine TF.mono ?_; rintro e w1 ⟨rfl, hb1⟩))
        refine bodyPost_ret (v := .int .i64 (q : Int)) (by simp [results, Tryd.results18, go_sem]) rfl ⟨by rw [← hr2.out], hB.trans (hb1.mono hB.size)⟩
    · have hqi : ¬ (q : Int) < (s.size : Int) := by omega
      have hr2 := (runS_off (fun h => hqs h.1)).symm.trans hr
      clear hr
      replace hr2 := Aside0.mk hr2
      go_wp2
      refine bodyPost_ret (v := .int .i64 (q : Int)) (by simp [results, Tryd.results18, go_sem]) rfl ⟨by rw [← hr2.out], hB⟩
set_option maxHeartbeats 4000000 in
set_option maxRecDepth 100000 in
theorem run_digit.calls (s : ByteArray) (at_ : Nat) (w : World) (hs : s.size ≤ 1000000) (ha : at_ ≤ s.size) :
    Calls Tryd.prog 18 #[.string s, .int .i64 (at_ : Int), .func (.func 22) #[] #[]] w fun e w' => e = .returned (.int .i64 (runS isDigit s at_ : Int)) ∧ Below w.heap.size w w' := by
  go_enter Tryd.func18, Tryd.ntmps18
  go_wp2
  go_loopw [1] (fun v1 wr => ∃ q : Nat, v1 = .int .i64 q ∧ q ≤ s.size ∧ runS isDigit s q = runS isDigit s at_ ∧ Below w.heap.size w wr) (fun v1 _ => s.size - (intOf v1).toNat)
  case atStart => exact ⟨at_, rfl, ha, rfl, Below.refl _ _⟩
  case round =>
    obtain ⟨q, rfl, hq, hr, hB⟩ := hrel
    by_cases hqs : q < s.size
    · have hqi : (q : Int) < (s.size : Int) := by omega
      have hq0 : (0 : Int) ≤ (q : Int) := by omega
      have hbt : ∀ h : q < s.size, ((s[q]'h).toNat : Int) = bt s (q : Int) := fun h => bt_at s (q : Int) (by simpa using h)
      cases hp : isDigit (bt s (q : Int)) with
      | true =>
        have hr2 := (runS_on hqs hp).symm.trans hr
        have TF := digit.calls (bt s (q : Int)) wr
        rw [hp] at TF
        replace hr := Aside0.mk hr2
        clear hr2
        go_wp2_with (first | (go_at_call 22; refine TF.mono ?_; rintro e w1 ⟨rfl, hb1⟩))
        go_roundw
        case rel => exact ⟨q + 1, by first | rfl | go_num, by omega, hr.out, hB.trans (hb1.mono hB.size)⟩
        case measure => simp [intOf]; omega
      | false =>
        have hr2 := (runS_off (fun h => by rw [hp] at h; cases h.2)).symm.trans hr
        have TF := digit.calls (bt s (q : Int)) wr
        rw [hp] at TF
        clear hr
        replace hr2 := Aside0.mk hr2
        go_wp2_with (first | (go_at_call 22; refine TF.mono ?_; rintro e w1 ⟨rfl, hb1⟩))
        refine bodyPost_ret (v := .int .i64 (q : Int)) (by simp [results, Tryd.results18, go_sem]) rfl ⟨by rw [← hr2.out], hB.trans (hb1.mono hB.size)⟩
    · have hqi : ¬ (q : Int) < (s.size : Int) := by omega
      have hr2 := (runS_off (fun h => hqs h.1)).symm.trans hr
      clear hr
      replace hr2 := Aside0.mk hr2
      go_wp2
      refine bodyPost_ret (v := .int .i64 (q : Int)) (by simp [results, Tryd.results18, go_sem]) rfl ⟨by rw [← hr2.out], hB⟩

end Go.Proofs.YtmklkkpeolnjbaaDoor.Lex
