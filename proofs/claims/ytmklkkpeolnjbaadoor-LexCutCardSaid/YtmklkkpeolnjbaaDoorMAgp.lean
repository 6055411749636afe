/-
LexAgain, plainly: tokens with blanks between them are the same text to lex. Conditions: as each theorem states them.
-/
import Derived.Test.YtmklkkpeolnjbaaDoorMPlaces
set_option linter.unusedVariables false
set_option linter.unusedSimpArgs false
namespace Go.Proofs.YtmklkkpeolnjbaaDoor.Lex
open Go.RowKit Go.Proofs.YtmklkkpeolnjbaaDoorW.PrintWords Go.Proofs.YtmklkkpeolnjbaaDoorW.PrintLast Go.Proofs.YtmklkkpeolnjbaaDoorW.PrintMore
open Go.Proofs.YtmklkkpeolnjbaaDoor.Kit Go.ChangeMaps Go.MapKept
open Go.Proofs.YtmklkkpeolnjbaaDoor.PLexCut
/-! ### bytes of a part -/
theorem bt_get (s : ByteArray) (i : Nat) (h : i < s.size) : bt s (i : Int) = ((s[i]'h).toNat : Int) := by
  have := bt_at s (i : Int) (by simpa using h)
  simp only [Int.toNat_natCast] at this
  exact this.symm
theorem bt_ext (s : ByteArray) (i e j : Nat) (he : e ≤ s.size) (hj : i + j < e) : bt (s.extract i e) (j : Int) = bt s ((i + j : Nat) : Int) := by
  have h1 : j < (s.extract i e).size := by rw [ByteArray.size_extract]; omega
  rw [bt_get _ _ h1, bt_get _ _ (by omega : i + j < s.size)]
  congr 2
  exact ByteArray.getElem_extract h1
theorem bt_left (p q : ByteArray) (j : Nat) (h : j < p.size) : bt (p ++ q) (j : Int) = bt p (j : Int) := by
  rw [bt_get _ _ (by rw [ByteArray.size_append]; omega), bt_get _ _ h]
  congr 2
  exact ByteArray.getElem_append_left h
theorem bt_right (p q : ByteArray) (j : Nat) (h : j < q.size) : bt (p ++ q) ((p.size + j : Nat) : Int) = bt q (j : Int) := by
  rw [bt_get _ _ (by rw [ByteArray.size_append]; omega), bt_get _ _ h]
  congr 2
  rw [ByteArray.getElem_append_right (by omega)]
  congr 1
  omega
/-! ### good tokens -/
/-- A token's text is one by itself. -/
inductive Good (t : Tok) : Prop where
  | word (h0 : 0 < t.f1.size) (h1 : isLetter (bt t.f1 0) = true) (h2 : ∀ j : Nat, j < t.f1.size → isWord (bt t.f1 (j : Int)) = true) (h3 : t.f0 = if isKey keys t.f1 = true then 2 else 1) (h4 : t.f2 = 0)
  | digits (h0 : 0 < t.f1.size) (h2 : ∀ j : Nat, j < t.f1.size → isDigit (bt t.f1 (j : Int)) = true) (h3 : t.f0 = 3) (h4 : numS t.f1 = (t.f2, true))
  | sign1 (h0 : t.f1.size = 1) (h1 : oneSign (bt t.f1 0) = true) (h3 : t.f0 = 4) (h4 : t.f2 = 0)
  | sign2 (h0 : t.f1.size = 2) (h1 : twoSign t.f1 = true) (h3 : t.f0 = 4) (h4 : t.f2 = 0)
theorem Good.pos {t : Tok} (h : Good t) : 0 < t.f1.size := by
  cases h with
  | word h => exact h
  | digits h => exact h
  | sign1 h => omega
  | sign2 h => omega
theorem runS_in {p : Int → Bool} {s : ByteArray} : ∀ (m i : Nat), s.size - i = m → i ≤ s.size → ∀ j, i ≤ j → j < runS p s i → p (bt s (j : Int)) = true
  | 0, i, h, hi, j, h1, h2 => by rw [runS_off (fun h => by omega)] at h2; omega
  | m + 1, i, h, hi, j, h1, h2 => by
    by_cases hp : p (bt s (i : Int)) = true
    · rw [runS_on (by omega) hp] at h2
      by_cases hj : j = i
      · rw [hj]; exact hp
      · exact runS_in m (i + 1) (by omega) (by omega) j (by omega) h2
    · rw [runS_off (fun h => hp h.2)] at h2; omega
theorem runS_to {p : Int → Bool} {s : ByteArray} {e : Nat} (he : e ≤ s.size) (hoff : e < s.size → p (bt s (e : Int)) = false) : ∀ (m i : Nat), e - i = m → i ≤ e → (∀ j : Nat, i ≤ j → j < e → p (bt s (j : Int)) = true) → runS p s i = e
  | 0, i, h, hi, hp => by
    obtain rfl : i = e := by omega
    rw [runS_off (fun h => by have := hoff h.1; rw [this] at h; cases h.2)]
  | m + 1, i, h, hi, hp => by
    rw [runS_on (by omega) (hp i (Nat.le_refl _) (by omega))]
    exact runS_to he hoff m (i + 1) (by omega) (by omega) (fun j h1 h2 => hp j (by omega) h2)
/-- A sign's first byte is none of the others. -/
theorem oneSign_no {c : Int} (h : oneSign c = true) : isBlank c = false ∧ ¬ c = 35 ∧ isLetter c = false ∧ isDigit c = false := by
  replace h := of_decide_eq_true h
  rcases h with h | h | h | h | h | h | h | h | h | h | h | h | h | h | h | h | h <;> subst h <;> exact ⟨rfl, by decide, rfl, rfl⟩
theorem two_form {T : ByteArray} (h : twoSign T = true) : T = ⟨#[60, 60]⟩ ∨ T = ⟨#[62, 62]⟩ ∨ T = ⟨#[61, 61]⟩ := by
  have inj_b : ∀ {a b : ByteArray}, a.toList = b.toList → a = b := fun {a b} h => of_decide_eq_true ((same_b a b).symm.trans (beq_iff_eq.mpr h))
  rcases of_decide_eq_true h with h | h | h
  · exact .inl (inj_b (h.trans (by simp)))
  · exact .inr (.inl (inj_b (h.trans (by simp))))
  · exact .inr (.inr (inj_b (h.trans (by simp))))
theorem twoSign_no {T : ByteArray} (h : twoSign T = true) : isBlank (bt T 0) = false ∧ ¬ bt T 0 = 35 ∧ isLetter (bt T 0) = false ∧ isDigit (bt T 0) = false ∧ T.size = 2 ∧ ¬ bt T ((1 : Nat) : Int) = 32 := by
  rcases two_form h with rfl | rfl | rfl
  · exact ⟨by kernel_rfl, by rw [show bt ⟨#[60, 60]⟩ 0 = 60 by kernel_rfl]; decide, by kernel_rfl, by kernel_rfl, rfl, by rw [show bt ⟨#[60, 60]⟩ ((1 : Nat) : Int) = 60 by kernel_rfl]; decide⟩
  · exact ⟨by kernel_rfl, by rw [show bt ⟨#[62, 62]⟩ 0 = 62 by kernel_rfl]; decide, by kernel_rfl, by kernel_rfl, rfl, by rw [show bt ⟨#[62, 62]⟩ ((1 : Nat) : Int) = 62 by kernel_rfl]; decide⟩
  · exact ⟨by kernel_rfl, by rw [show bt ⟨#[61, 61]⟩ 0 = 61 by kernel_rfl]; decide, by kernel_rfl, by kernel_rfl, rfl, by rw [show bt ⟨#[61, 61]⟩ ((1 : Nat) : Int) = 61 by kernel_rfl]; decide⟩
theorem letter_no {c : Int} (h : isLetter c = true) : isBlank c = false ∧ ¬ c = 35 := by
  unfold isLetter at h
  rw [Bool.or_eq_true] at h
  have hc : (97 ≤ c ∧ c ≤ 122) ∨ c = 95 := h.imp of_decide_eq_true of_decide_eq_true
  exact ⟨decide_eq_false (by omega), by omega⟩
theorem digit_no {c : Int} (h : isDigit c = true) : isBlank c = false ∧ ¬ c = 35 ∧ isLetter c = false := by
  have hc := of_decide_eq_true h
  refine ⟨decide_eq_false (by omega), by omega, ?_⟩
  unfold isLetter
  rw [decide_eq_false (by omega), decide_eq_false (by omega)]
  rfl
theorem numS_pair (T : ByteArray) (h : ¬ (numS T).2 = false) : numS T = ((numS T).1, true) := by
  cases hh : numS T with
  | mk a b =>
    rw [hh] at h
    cases b with
    | true => rfl
    | false => exact absurd rfl h
theorem step_good {s : ByteArray} {i j : Nat} {t : Tok} (hi : i < s.size) (h : stepS s i = .tok t j) : Good t := by
  unfold stepS at h
  split at h
  · cases h
  · split at h
    · cases h
    · split at h
      · rename_i hl
        injection h with h1 h2
        subst h1
        have hr := runS_lt (p := isWord) hi (by unfold isWord; rw [hl]; rfl)
        have hsz : (s.extract i (runS isWord s i)).size = runS isWord s i - i := by rw [ByteArray.size_extract]; omega
        refine .word (by show 0 < (s.extract i _).size; omega) ?_ (fun k hk => ?_) rfl rfl
        · have := bt_ext s i (runS isWord s i) 0 hr.2 (by omega)
          show isLetter (bt (s.extract i (runS isWord s i)) ((0 : Nat) : Int)) = true
          rw [this]
          exact hl
        · replace hk : k < (s.extract i (runS isWord s i)).size := hk
          have := bt_ext s i (runS isWord s i) k hr.2 (by omega)
          show isWord (bt (s.extract i (runS isWord s i)) (k : Int)) = true
          rw [this]
          exact runS_in _ i rfl (by omega) (i + k) (by omega) (by omega)
      · split at h
        · rename_i hl
          split at h
          · cases h
          · rename_i hn
            injection h with h1 h2
            subst h1
            have hr := runS_lt (p := isDigit) hi hl
            have hsz : (s.extract i (runS isDigit s i)).size = runS isDigit s i - i := by rw [ByteArray.size_extract]; omega
            refine .digits (by show 0 < (s.extract i _).size; omega) (fun k hk => ?_) rfl (numS_pair _ (fun h => hn (.inl h)))
            replace hk : k < (s.extract i (runS isDigit s i)).size := hk
            have := bt_ext s i (runS isDigit s i) k hr.2 (by omega)
            show isDigit (bt (s.extract i (runS isDigit s i)) (k : Int)) = true
            rw [this]
            exact runS_in _ i rfl (by omega) (i + k) (by omega) (by omega)
        · split at h
          · cases h
          · rename_i hz
            injection h with h1 h2
            subst h1
            unfold signS at hz ⊢
            split
            · rename_i h2s
              exact .sign2 (by show (s.extract i (i + 2)).size = 2; rw [ByteArray.size_extract]; omega) h2s.2 rfl rfl
            · rename_i h2n
              rw [if_neg h2n] at hz
              split
              · rename_i h1s
                refine .sign1 (by show (s.extract i (i + 1)).size = 1; rw [ByteArray.size_extract]; omega) ?_ rfl rfl
                have := bt_ext s i (i + 1) 0 (by omega) (by omega)
                show oneSign (bt (s.extract i (i + 1)) ((0 : Nat) : Int)) = true
                rw [this]
                exact h1s
              · rename_i h1n
                rw [if_neg h1n] at hz
                exact absurd rfl hz
theorem cut_good {s : ByteArray} : ∀ (m i : Nat) (ts us : List Tok), i ≤ s.size → cutS s m i ts = .inl us → ∃ vs, us = ts ++ vs ++ [endTok s] ∧ (∀ t ∈ vs, Good t) ∧ Placed s (vs ++ [endTok s]) i
  | 0, i, ts, us, hi, h => by cases h
  | m + 1, i, ts, us, hi, h => by
    have hP := cut_placed (m + 1) i ts us hi h
    rw [cutS] at h
    split at h
    · rename_i his
      split at h
      · rename_i j hj
        have := step_on his hj
        obtain ⟨vs, h1, h2, h3⟩ := cut_good m j ts us (by omega) h
        exact ⟨vs, h1, h2, h3.le (by omega)⟩
      · rename_i t j hj
        have hg := step_good his hj
        obtain ⟨a1, a2, a3, a4, a5⟩ := step_tok his hj
        obtain ⟨vs, h1, h2, h3⟩ := cut_good m j (ts ++ [t]) us (by omega) h
        exact ⟨t :: vs, by rw [h1]; simp, fun x hx => (List.mem_cons.mp hx).elim (fun e => e ▸ hg) (h2 x), ⟨i, a1, Nat.le_refl _, by omega, a5, by rw [a2]; exact h3⟩⟩
      · cases h
    · injection h with h
      obtain ⟨vs, h1, h2⟩ := hP
      have hv : vs = [] := by
        have := congrArg List.length (h.trans h1)
        simp at this
        exact this
      subst hv
      exact ⟨[], h1, by simp, h2⟩
/-! ### a good token in another text -/
structure Sits (X : ByteArray) (i : Nat) (T : ByteArray) : Prop where
  le : i + T.size ≤ X.size
  ext : X.extract i (i + T.size) = T
  off : i + T.size < X.size → bt X ((i + T.size : Nat) : Int) = 32
theorem Sits.bt {X T : ByteArray} {i : Nat} (h : Sits X i T) (j : Nat) (hj : j < T.size) : bt X ((i + j : Nat) : Int) = bt T (j : Int) := by
  rw [← bt_ext X i (i + T.size) j h.le (by omega), h.ext]
theorem Sits.bt0 {X T : ByteArray} {i : Nat} (h : Sits X i T) (hj : 0 < T.size) : Go.Proofs.YtmklkkpeolnjbaaDoorW.PrintWords.bt X (i : Int) = Go.Proofs.YtmklkkpeolnjbaaDoorW.PrintWords.bt T 0 := h.bt 0 hj
theorem again_step {X : ByteArray} {i : Nat} {t : Tok} (hg : Good t) (h : Sits X i t.f1) : stepS X i = .tok ⟨t.f0, t.f1, t.f2, i⟩ (i + t.f1.size) := by
  have hb := h.bt0 hg.pos
  have hle := h.le
  obtain ⟨t0, T, t2, t3⟩ := t
  cases hg with
  | word h0 h1 h2 h3 h4 =>
    simp only at h0 h1 h2 h3 h4 h hb hle ⊢
    subst h4
    have hn := letter_no h1
    have hr : runS isWord X i = i + T.size := runS_to hle (fun hh => by rw [h.off hh]; rfl) _ i rfl (by omega) (fun j hj1 hj2 => by
      have := h.bt (j - i) (by omega)
      rw [show i + (j - i) = j by omega] at this
      rw [this]
      exact h2 _ (by omega))
    unfold stepS
    rw [hb, if_neg (by rw [hn.1]; decide), if_neg hn.2, if_pos h1, hr, h.ext, h3]
  | digits h0 h2 h3 h4 =>
    simp only at h0 h2 h3 h4 h hb hle ⊢
    subst h3
    have h1 := h2 0 h0
    replace h1 : isDigit (Go.Proofs.YtmklkkpeolnjbaaDoorW.PrintWords.bt T 0) = true := h1
    have hn := digit_no h1
    have hr : runS isDigit X i = i + T.size := runS_to hle (fun hh => by rw [h.off hh]; rfl) _ i rfl (by omega) (fun j hj1 hj2 => by
      have := h.bt (j - i) (by omega)
      rw [show i + (j - i) = j by omega] at this
      rw [this]
      exact h2 _ (by omega))
    unfold stepS
    rw [hb, if_neg (by rw [hn.1]; decide), if_neg hn.2.1, if_neg (by rw [hn.2.2]; decide), if_pos h1, hr, h.ext, h4]
    rw [if_neg (by
      rintro (hh | ⟨hh, hl⟩)
      · exact Bool.noConfusion hh
      · rw [h.off hh] at hl; exact Bool.noConfusion hl)]
  | sign1 h0 h1 h3 h4 =>
    simp only at h0 h1 h3 h4 h hb hle ⊢
    subst h3 h4
    have hn := oneSign_no h1
    have e1 := h.ext
    rw [h0] at e1 hle
    have hs : signS X i = T := by
      unfold signS
      rw [if_neg (by
        rintro ⟨hh, h2⟩
        have := twoSign_no h2
        have h32 := h.off (by omega)
        rw [h0] at h32
        have e2 := bt_ext X i (i + 2) 1 (by omega) (by omega)
        rw [h32] at e2
        exact this.2.2.2.2.2 e2), hb, if_pos h1, e1]
    unfold stepS
    rw [hb, if_neg (by rw [hn.1]; decide), if_neg hn.2.1, if_neg (by rw [hn.2.2.1]; decide), if_neg (by rw [hn.2.2.2]; decide), hs, if_neg (by omega)]
  | sign2 h0 h1 h3 h4 =>
    simp only at h0 h1 h3 h4 h hb hle ⊢
    subst h3 h4
    have hn := twoSign_no h1
    have e1 := h.ext
    rw [h0] at e1 hle
    have hs : signS X i = T := by
      unfold signS
      rw [if_pos ⟨by omega, by rw [e1]; exact h1⟩, e1]
    unfold stepS
    rw [hb, if_neg (by rw [hn.1]; decide), if_neg hn.2.1, if_neg (by rw [hn.2.2.1]; decide), if_neg (by rw [hn.2.2.2.1]; decide), hs, if_neg (by omega)]
/-! ### the joined text -/
def sp : ByteArray := ⟨#[32]⟩
def catT : List Tok → ByteArray
  | [] => ⟨#[]⟩
  | t :: r => sp ++ t.f1 ++ catT r
theorem sp_bt : bt sp ((0 : Nat) : Int) = 32 := by kernel_rfl
theorem ext_mid (A T R : ByteArray) : (A ++ T ++ R).extract A.size (A.size + T.size) = T := by
  have hs : (A ++ T ++ R).size = A.size + T.size + R.size := by rw [ByteArray.size_append, ByteArray.size_append]
  apply ByteArray.ext_getElem
  · rw [ByteArray.size_extract, hs]; omega
  · intro j h1 h2
    rw [ByteArray.getElem_extract, ByteArray.getElem_append_left (by rw [ByteArray.size_append]; omega), ByteArray.getElem_append_right (by omega)]
    congr 1
    omega
theorem catT_head : ∀ (ts : List Tok), 0 < (catT ts).size → bt (catT ts) 0 = 32
  | [], h => absurd h (Nat.lt_irrefl 0)
  | t :: r, _ => by
    show bt (sp ++ t.f1 ++ catT r) ((0 : Nat) : Int) = 32
    have h1 : (0 : Nat) < sp.size := by decide
    rw [bt_left (sp ++ t.f1) (catT r) 0 (by rw [ByteArray.size_append]; omega), bt_left sp t.f1 0 h1]
    exact sp_bt
/-- Alike but for their places. -/
def Like (u t : Tok) : Prop := u.f0 = t.f0 ∧ u.f1 = t.f1 ∧ u.f2 = t.f2
theorem cut_again (s : ByteArray) : ∀ (ts : List Tok), (∀ t ∈ ts, Good t) → ∀ (P X : ByteArray) (m : Nat) (acc : List Tok), X = P ++ catT (ts ++ [endTok s]) → X.size - P.size < m →
    ∃ us, cutS X m P.size acc = .inl (acc ++ us) ∧ us.length = ts.length + 1 ∧ ∀ (k : Nat) (u t : Tok), us[k]? = some u → (ts ++ [endTok s])[k]? = some t → Like u t
  | [], hg, P, X, m, acc, hX, hm => by
    have hs : X.size = P.size + 1 := by rw [hX]; simp [catT, sp, endTok, ByteArray.size_append]; rfl
    have hb : bt X (P.size : Int) = 32 := by
      have h1 : 0 < (catT ([] ++ [endTok s])).size := by rw [hX, ByteArray.size_append] at hs; omega
      have := bt_right P (catT ([] ++ [endTok s])) 0 h1
      rw [← hX, Nat.add_zero] at this
      rw [this]
      exact catT_head _ h1
    obtain ⟨m, rfl⟩ : ∃ k, m = k + 2 := ⟨m - 2, by omega⟩
    refine ⟨[endTok X], ?_, rfl, ?_⟩
    · rw [cutS, if_pos (by omega)]
      have : stepS X P.size = .on (P.size + 1) := by unfold stepS; rw [hb, if_pos (show isBlank 32 = true by decide)]
      rw [this]
      simp only
      rw [cutS, if_neg (by omega)]
      rfl
    · intro k u t h1 h2
      match k with
      | 0 =>
        obtain rfl := Option.some.inj h1
        obtain rfl := Option.some.inj h2
        exact ⟨rfl, rfl, rfl⟩
      | k + 1 => cases h1
  | t :: ts, hg, P, X, m, acc, hX, hm => by
    have hgt : Good t := hg t (List.mem_cons_self ..)
    have hX2 : X = P ++ sp ++ t.f1 ++ catT (ts ++ [endTok s]) := by
      rw [hX]
      show P ++ (sp ++ t.f1 ++ catT (ts ++ [endTok s])) = _
      rw [← ByteArray.append_assoc, ← ByteArray.append_assoc]
    have hsp : sp.size = 1 := rfl
    have hA : (P ++ sp).size = P.size + 1 := by rw [ByteArray.size_append, hsp]
    have hA2 : (P ++ sp ++ t.f1).size = P.size + 1 + t.f1.size := by rw [ByteArray.size_append, hA]
    have hXs : X.size = P.size + 1 + t.f1.size + (catT (ts ++ [endTok s])).size := by rw [hX2, ByteArray.size_append, hA2]
    have hb : bt X (P.size : Int) = 32 := by
      rw [hX2, bt_left _ _ _ (by omega), bt_left _ _ _ (by omega)]
      exact bt_right P sp 0 (by decide)
    have hsit : Sits X (P.size + 1) t.f1 := by
      refine ⟨by omega, ?_, fun hh => ?_⟩
      · have := ext_mid (P ++ sp) t.f1 (catT (ts ++ [endTok s]))
        rw [hA, ← hX2] at this
        exact this
      · have h1 : 0 < (catT (ts ++ [endTok s])).size := by omega
        have := bt_right (P ++ sp ++ t.f1) (catT (ts ++ [endTok s])) 0 h1
        rw [← hX2, hA2, Nat.add_zero] at this
        rw [this]
        exact catT_head _ h1
    have hpos := hgt.pos
    obtain ⟨m, rfl⟩ : ∃ k, m = k + 2 := ⟨m - 2, by omega⟩
    obtain ⟨us, h1, h2, h3⟩ := cut_again s ts (fun x hx => hg x (List.mem_cons_of_mem _ hx)) (P ++ sp ++ t.f1) X m (acc ++ [⟨t.f0, t.f1, t.f2, ((P.size + 1 : Nat) : Int)⟩]) hX2 (by omega)
    refine ⟨⟨t.f0, t.f1, t.f2, ((P.size + 1 : Nat) : Int)⟩ :: us, ?_, by rw [List.length_cons, h2]; rfl, ?_⟩
    · rw [cutS, if_pos (by omega)]
      have : stepS X P.size = .on (P.size + 1) := by unfold stepS; rw [hb, if_pos (show isBlank 32 = true by decide)]
      rw [this]
      simp only
      rw [cutS, if_pos (by omega), again_step hgt hsit]
      simp only
      rw [hA2] at h1
      rw [h1]
      simp
    · intro k u t' hu ht
      match k with
      | 0 =>
        obtain rfl := Option.some.inj hu
        obtain rfl := Option.some.inj ht
        exact ⟨rfl, rfl, rfl⟩
      | k + 1 => exact h3 k u t' hu ht
end Go.Proofs.YtmklkkpeolnjbaaDoor.Lex
