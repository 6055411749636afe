/-
Tokens as the program holds them, what lex.number and lex.sign give, and what lex.Cut gives, plainly. Conditions: as each theorem states them.
-/
import Derived.Test.YtmklkkpeolnjbaaDoorMRun
import Derived.Test.YtmklkkpeolnjbaaDoorPLexCutx2
import Derived.Test.YtmklkkpeolnjbaaDoorMAt
set_option linter.unusedVariables false
set_option linter.unusedSimpArgs false
namespace Go.Proofs.YtmklkkpeolnjbaaDoor.Lex
open Go.RowKit Go.Proofs.YtmklkkpeolnjbaaDoorW.PrintWords Go.Proofs.YtmklkkpeolnjbaaDoorW.PrintLast Go.Proofs.YtmklkkpeolnjbaaDoorW.PrintMore
open Go.Proofs.YtmklkkpeolnjbaaDoor.Kit Go.ChangeMaps Go.MapKept
open Go.Proofs.YtmklkkpeolnjbaaDoor.PLexCut
structure Tok where
  f0 : Int
  f1 : ByteArray
  f2 : Int
  f3 : Int
def zTok : Tok := ⟨0, ⟨#[]⟩, 0, 0⟩
def kTok : Kd Tok := Kd.iso (Kd.pair (Kd.int .i64) (Kd.pair Kd.string (Kd.pair (Kd.int .u64) (Kd.int .i64)))) (fun x : Tok => (x.f0, x.f1, x.f2, x.f3))
theorem kTok_open {w : World} {x : Tok} {cs : List Value} (h : kTok.K w x cs) : cs = [.int .i64 x.f0, .string x.f1, .int .u64 x.f2, .int .i64 x.f3] := by
  obtain ⟨_, _, rfl, rfl, ⟨_, _, rfl, rfl, ⟨_, _, rfl, rfl, rfl⟩⟩⟩ := h
  exact rfl
theorem kTok_mk (w : World) (x : Tok) : kTok.K w x [.int .i64 x.f0, .string x.f1, .int .u64 x.f2, .int .i64 x.f3] := ⟨[.int .i64 x.f0], [.string x.f1, .int .u64 x.f2, .int .i64 x.f3], rfl, rfl, ⟨[.string x.f1], [.int .u64 x.f2, .int .i64 x.f3], rfl, rfl, ⟨[.int .u64 x.f2], [.int .i64 x.f3], rfl, rfl, rfl⟩⟩⟩
theorem kTok_mkM (w : World) (base : Nat) (ok : Nat → Prop) (x : Tok) : kTok.M w base ok x [.int .i64 x.f0, .string x.f1, .int .u64 x.f2, .int .i64 x.f3] := ⟨[.int .i64 x.f0], [.string x.f1, .int .u64 x.f2, .int .i64 x.f3], rfl, rfl, ⟨[.string x.f1], [.int .u64 x.f2, .int .i64 x.f3], rfl, rfl, ⟨[.int .u64 x.f2], [.int .i64 x.f3], rfl, rfl, rfl⟩⟩⟩
def rdTok (xs : List Tok) (i : Int) : Tok := xs.getD i.toNat zTok
theorem at_Tok {w : World} {A : Option Addr} {n : Nat} {xs : List Tok} (h : Kd.C kTok w A n xs) (i : Int) (h0 : 0 ≤ i) (h1 : i < n) :
    ∃ ad, A = some ad ∧ w.cell? (ad.add (i.toNat * 4)) = some (.int .i64 (rdTok xs i).f0) ∧ w.cell? ⟨(ad.add (i.toNat * 4)).block, (ad.add (i.toNat * 4)).off + 1, none⟩ = some (.string (rdTok xs i).f1) ∧
      w.cell? ⟨(ad.add (i.toNat * 4)).block, (ad.add (i.toNat * 4)).off + 2, none⟩ = some (.int .u64 (rdTok xs i).f2) ∧ w.cell? ⟨(ad.add (i.toNat * 4)).block, (ad.add (i.toNat * 4)).off + 3, none⟩ = some (.int .i64 (rdTok xs i).f3) := by
  obtain ⟨ad, c, e, _, hK, hc0⟩ := Kd.C_get h zTok i h0 h1
  have hc : ∀ j u, c[j]? = some u → w.cell? (ad.add (i.toNat * 4 + j)) = some u := hc0
  obtain rfl := kTok_open hK
  exact ⟨ad, e, hc 0 _ rfl, by rw [← add_field _ _ 1 (by omega)]; exact hc 1 _ rfl, by rw [← add_field _ _ 2 (by omega)]; exact hc 2 _ rfl, by rw [← add_field _ _ 3 (by omega)]; exact hc 3 _ rfl⟩
theorem infoTok : (Tryd.prog.info? 32).map (fun i => (i.zero, i.size, i.bytes)) = some (some (.agg #[.int .i64 0, .string ⟨#[]⟩, .int .u64 0, .int .i64 0]), 4, 40) := by kernel_rfl
/-! ### numbers -/
def numL (s : ByteArray) : Nat → Int → Nat → Int × Bool
  | 0, n, _ => (n, true)
  | m + 1, n, i => if n > (18446744073709551615 - ((bt s (i : Int) - 48) % 256)) / 10 then (0, false) else numL s m (IntKind.u64.wrap (IntKind.u64.wrap (n * 10) + (bt s (i : Int) - 48) % 256)) (i + 1)
/-- The value of digits, and whether it is not too great. -/
def numS (s : ByteArray) : Int × Bool := numL s s.size 0 0
theorem nxtL (i : Nat) (h : i ≤ 1000000) : wrap64 ((i : Int) + 1) = ((i + 1 : Nat) : Int) := by rw [wrap_in (by omega) (by omega)]; rfl
theorem num_l0 (s : ByteArray) (hs : s.size ≤ 1000000) : ∀ (m i : Nat) (n : Int), i + m = s.size → ∃ k, lex_number.l0 k s n (i : Int) = some (numL s m n i)
  | 0, i, n, h => ⟨1, by rw [lex_number.l0, if_neg (by omega)]; rfl⟩
  | m + 1, i, n, h => by
    by_cases hc : n > (18446744073709551615 - ((bt s (i : Int) - 48) % 256)) / 10
    · exact ⟨1, by rw [lex_number.l0, if_pos (by omega), if_pos (by omega), if_pos hc, numL, if_pos hc]⟩
    · obtain ⟨k, hk⟩ := num_l0 s hs m (i + 1) (IntKind.u64.wrap (IntKind.u64.wrap (n * 10) + (bt s (i : Int) - 48) % 256)) (by omega)
      exact ⟨k + 1, by rw [lex_number.l0, if_pos (by omega), if_pos (by omega), if_neg hc, nxtL i (by omega), hk, numL, if_neg hc]⟩
theorem number.calls (s : ByteArray) (w : World) (hs : s.size ≤ 1000000) : Calls Tryd.prog 24 #[.string s] w fun e w' => e = .returned (.tuple #[.int .u64 (numS s).1, .bool (numS s).2]) ∧ Below w.heap.size w w' := by
  obtain ⟨k, hk⟩ := num_l0 s hs s.size 0 0 (by omega)
  exact (lex_number.calls k s (numS s).1 (numS s).2 w hk).mono fun _ _ ⟨h1, h2⟩ => ⟨h1, h2.below⟩
/-! ### signs -/
def oneSign (c : Int) : Bool := decide (c = 59 ∨ c = 61 ∨ c = 91 ∨ c = 93 ∨ c = 123 ∨ c = 125 ∨ c = 40 ∨ c = 41 ∨ c = 44 ∨ c = 43 ∨ c = 45 ∨ c = 42 ∨ c = 38 ∨ c = 124 ∨ c = 94 ∨ c = 60 ∨ c = 126)
def twoSign (t : ByteArray) : Bool := decide (t.toList = [60, 60] ∨ t.toList = [62, 62] ∨ t.toList = [61, 61])
/-- The sign that begins at a byte; empty: there is none. -/
def signS (s : ByteArray) (i : Nat) : ByteArray := if i + 1 < s.size ∧ twoSign (s.extract i (i + 2)) = true then s.extract i (i + 2) else if oneSign (bt s (i : Int)) = true then s.extract i (i + 1) else ⟨#[]⟩
theorem sign_j0 (s : ByteArray) (i : Nat) (hs : s.size ≤ 1000000) (hi : i < s.size) : lex_sign.j0 1 s (i : Int) = some (if oneSign (bt s (i : Int)) = true then s.extract i (i + 1) else ⟨#[]⟩) := by
  rw [lex_sign.j0]
  have e1 : wrap64 ((i : Int) + 1) = ((i + 1 : Nat) : Int) := nxtL i (by omega)
  have c1 : ((i : Int) ≤ ((i + 1 : Nat) : Int)) = True := eq_true (by omega)
  have c2 : (((i + 1 : Nat) : Int) ≤ (s.size : Int)) = True := eq_true (by omega)
  have c3 : ((0 : Int) ≤ (i : Int)) = True := eq_true (by omega)
  have c4 : ((i : Int) < (s.size : Int)) = True := eq_true (by omega)
  simp only [e1, c1, c2, c3, c4, if_true, Int.toNat_natCast]
  generalize bt s (i : Int) = c
  generalize s.extract i (i + 1) = E
  unfold oneSign
  by_cases h : c = 59 ∨ c = 61 ∨ c = 91 ∨ c = 93 ∨ c = 123 ∨ c = 125 ∨ c = 40 ∨ c = 41 ∨ c = 44 ∨ c = 43 ∨ c = 45 ∨ c = 42 ∨ c = 38 ∨ c = 124 ∨ c = 94 ∨ c = 60 ∨ c = 126
  · rw [if_pos (decide_eq_true h)]
    rcases h with h | h | h | h | h | h | h | h | h | h | h | h | h | h | h | h | h <;> subst h <;> simp
  · have hd := decide_eq_false h
    rw [hd]
    simp only [not_or] at h
    simp only [h, if_false]
    rfl
theorem sign.calls (s : ByteArray) (i : Nat) (w : World) (hs : s.size ≤ 1000000) (hi : i < s.size) : Calls Tryd.prog 25 #[.string s, .int .i64 (i : Int)] w fun e w' => e = .returned (.string (signS s i)) ∧ Below w.heap.size w w' := by
  have h : lex_sign.f 1 s (i : Int) = some (signS s i) := by
    have hj := sign_j0 s i hs hi
    unfold lex_sign.f signS
    rw [nxtL i (by omega), hj]
    have e2 : wrap64 ((i : Int) + 2) = ((i + 2 : Nat) : Int) := by rw [wrap_in (by omega) (by omega)]; rfl
    rw [e2]
    by_cases h1 : i + 1 < s.size
    · rw [if_pos (by omega), if_pos (by omega), if_pos (by omega), if_pos (by omega)]
      simp only [Int.toNat_natCast]
      unfold twoSign
      split
      · rw [if_pos ⟨h1, decide_eq_true (.inl ‹_›)⟩]
      · split
        · rw [if_pos ⟨h1, decide_eq_true (.inr (.inl ‹_›))⟩]
        · split
          · rw [if_pos ⟨h1, decide_eq_true (.inr (.inr ‹_›))⟩]
          · rename_i a b c
            have hn : ¬ (i + 1 < s.size ∧ decide ((s.extract i (i + 2)).toList = [60, 60] ∨ (s.extract i (i + 2)).toList = [62, 62] ∨ (s.extract i (i + 2)).toList = [61, 61]) = true) := by
              rintro ⟨_, h⟩
              rcases of_decide_eq_true h with h | h | h
              · exact a h
              · exact b h
              · exact c h
            rw [if_neg hn]
    · rw [if_neg (by omega), if_neg (fun h : i + 1 < s.size ∧ _ => h1 h.1)]
  exact (lex_sign.calls 1 s (i : Int) _ w h).mono fun _ _ ⟨h1, h2⟩ => ⟨h1, h2.below⟩
/-! ### Cut -/
inductive Step where
  | on (i : Nat)
  | tok (t : Tok) (i : Nat)
  | bad
def isBlank (c : Int) : Bool := decide (c = 32 ∨ c = 10 ∨ c = 9 ∨ c = 13)
/-- What is done at a byte. -/
def stepS (s : ByteArray) (i : Nat) : Step :=
  if isBlank (bt s (i : Int)) = true then .on (i + 1)
  else if bt s (i : Int) = 35 then .on (runS isLine s i)
  else if isLetter (bt s (i : Int)) = true then .tok ⟨if isKey keys (s.extract i (runS isWord s i)) = true then 2 else 1, s.extract i (runS isWord s i), 0, i⟩ (runS isWord s i)
  else if isDigit (bt s (i : Int)) = true then
    if (numS (s.extract i (runS isDigit s i))).2 = false ∨ (runS isDigit s i < s.size ∧ isLetter (bt s (runS isDigit s i : Int)) = true) then .bad
    else .tok ⟨3, s.extract i (runS isDigit s i), (numS (s.extract i (runS isDigit s i))).1, i⟩ (runS isDigit s i)
  else if (signS s i).size = 0 then .bad
  else .tok ⟨4, signS s i, 0, i⟩ (i + (signS s i).size)
/-- A text's tokens, or where one begins that is none. -/
def cutS (s : ByteArray) : Nat → Nat → List Tok → List Tok ⊕ Nat
  | 0, i, ts => .inr i
  | m + 1, i, ts => if i < s.size then match stepS s i with
      | .on j => cutS s m j ts
      | .tok t j => cutS s m j (ts ++ [t])
      | .bad => .inr i
    else .inl (ts ++ [⟨0, ⟨#[]⟩, 0, s.size⟩])
theorem runS_le {p : Int → Bool} {s : ByteArray} : ∀ (m i : Nat), s.size - i = m → i ≤ s.size → i ≤ runS p s i ∧ runS p s i ≤ s.size
  | 0, i, h, hi => by rw [runS_off (fun h => by omega)]; omega
  | m + 1, i, h, hi => by
    by_cases hp : p (bt s (i : Int)) = true
    · rw [runS_on (by omega) hp]
      have := runS_le (p := p) (s := s) m (i + 1) (by omega) (by omega)
      omega
    · rw [runS_off (fun h => hp h.2)]; omega
theorem runS_lt {p : Int → Bool} {s : ByteArray} {i : Nat} (h : i < s.size) (hp : p (bt s (i : Int)) = true) : i < runS p s i ∧ runS p s i ≤ s.size := by
  rw [runS_on h hp]
  have := runS_le (p := p) (s := s) _ (i + 1) rfl (by omega)
  omega
end Go.Proofs.YtmklkkpeolnjbaaDoor.Lex
