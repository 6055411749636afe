/-
The law's own bytes, and what is read of codes' bytes, plainly. Conditions: as each theorem states them.
-/
import Derived.Test.YteajbeajkplplaaPureImA
import Derived.Test.YteajbeajkplplaaPImageBytesx15
import Derived.Test.YteajbeajkplplaaKit
import Derived.WalkKit
import Derived.ProofKit
set_option linter.unusedSimpArgs false
set_option linter.unusedVariables false
namespace Go.Proofs.Yteajbeajkplplaa.Pure
open Go.RowKit Go.Proofs.YteajbeajkplplaaW.PrintWords Go.Proofs.YteajbeajkplplaaW.PrintLast Go.Proofs.YteajbeajkplplaaW.PrintMore Go.Proofs.Yteajbeajkplplaa.Kit
open Go.Proofs.Yteajbeajkplplaa.PImageBytes
attribute [local go_sem] max2_int min2_int max_two min_two max_three min_three max_four min_four   -- for this text's walks alone
def backS (x : Int) : Int := if x = 255 then -1 else x
theorem back_is (x : Int) (h0 : 0 ≤ x) (h1 : x < 256) : encode_back.f x = some (backS x) := by
  unfold encode_back.f backS
  by_cases h : x = 255
  · rw [if_pos h, if_pos h]
  · rw [if_neg h, if_neg h, wrap_in (by omega) (by omega)]
theorem or_add (a b : Nat) (hb : b < 256) : a * 256 ||| b = a * 256 + b := by
  have := Nat.two_pow_add_eq_or_of_lt (i := 8) (b := b) (by omega) a
  have e : 2 ^ 8 * a = a * 256 := by omega
  rw [e] at this
  exact this.symm
theorem or_u64 (v x : Int) (v0 : 0 ≤ v) (v1 : v < 72057594037927936) (x0 : 0 ≤ x) (x1 : x < 256) : Go.bits .or .u64 (IntKind.u64.wrap (v * 256)) (IntKind.u64.wrap x) = v * 256 + x := by
  have e1 : IntKind.u64.wrap (v * 256) = ((v.toNat * 256 : Nat) : Int) := by rw [IntKind.wrap_u64]; omega
  have e2 : IntKind.u64.wrap x = ((x.toNat : Nat) : Int) := by rw [IntKind.wrap_u64]; omega
  rw [e1, e2, bits_or_u64_nat _ _ (by omega) (by omega), or_add _ _ (by omega)]
  omega
theorem or_i64 (x y : Int) (x0 : 0 ≤ x) (x1 : x < 256) (y0 : 0 ≤ y) (y1 : y < 256) : Go.bits .or .i64 (wrap64 (wrap64 x * 256)) (wrap64 y) = x * 256 + y := by
  rw [wrap_in (x := x) (by omega) (by omega), wrap_in (x := x * 256) (by omega) (by omega), wrap_in (x := y) (by omega) (by omega)]
  obtain ⟨a, rfl⟩ : ∃ a : Nat, x = a := ⟨x.toNat, by omega⟩
  obtain ⟨b, rfl⟩ : ∃ b : Nat, y = b := ⟨y.toNat, by omega⟩
  have e : ((a : Int) * 256) = ((a * 256 : Nat) : Int) := by omega
  rw [e]
  have h1 : (BitVec.ofInt 64 ((a * 256 : Nat) : Int)).toNat = a * 256 := by
    rw [BitVec.ofInt_natCast, BitVec.toNat_ofNat]; exact Nat.mod_eq_of_lt (by omega)
  have h2 : (BitVec.ofInt 64 (b : Int)).toNat = b := by
    rw [BitVec.ofInt_natCast, BitVec.toNat_ofNat]; exact Nat.mod_eq_of_lt (by omega)
  show IntKind.i64.wrap ((BitVec.ofInt 64 ((a * 256 : Nat) : Int) ||| BitVec.ofInt 64 (b : Int)).toNat : Int) = _
  rw [BitVec.toNat_or, h1, h2, or_add _ _ (by omega)]
  have : IntKind.i64.wrap ((a * 256 + b : Nat) : Int) = wrap64 ((a * 256 + b : Nat) : Int) := by
    simp only [wrap64, IntKind.wrap, IntKind.bits, IntKind.signed]
    simp
    split <;> omega
  rw [this, wrap_in (by omega) (by omega)]
  omega
theorem dec_step (k : Nat) (ys : List Int) (j : Nat) (o d t a b c v g y : Int) (hl : ys.length = 8) (hj : j < 8) (hy : ys[j]? = some y) (y0 : 0 ≤ y) (y1 : y < 256) (v0 : 0 ≤ v) (v1 : v < 72057594037927936) :
    encode_Decode.l0 (k + 1) ys 8 (j : Int) o d t a b c v g = encode_Decode.l0 k ys 8 ((j + 1 : Nat) : Int) o d t a b c (v * 256 + y) g := by
  have hr : rd ys (j : Int) = y := by
    rw [rd_cast, List.getD_eq_getElem?_getD, hy]; rfl
  rw [encode_Decode.l0, if_pos (by omega), if_pos (by omega), if_pos (by omega), hr, or_u64 v y v0 v1 y0 y1, wrap_in (by omega) (by omega)]
  rfl
def wordV (x8 x9 x10 x11 x12 x13 x14 x15 : Int) : Int := ((((((x8 * 256 + x9) * 256 + x10) * 256 + x11) * 256 + x12) * 256 + x13) * 256 + x14) * 256 + x15
def Byte (x : Int) : Prop := 0 ≤ x ∧ x < 256
theorem dec_loop (k : Nat) (x8 x9 x10 x11 x12 x13 x14 x15 o d t a b c g : Int) (h8 : Byte x8) (h9 : Byte x9) (h10 : Byte x10) (h11 : Byte x11) (h12 : Byte x12) (h13 : Byte x13) (h14 : Byte x14) (h15 : Byte x15) :
    encode_Decode.l0 (k + 9) [x8, x9, x10, x11, x12, x13, x14, x15] 8 0 o d t a b c 0 g = (encode_May.f k o d t a b c (wordV x8 x9 x10 x11 x12 x13 x14 x15) g).bind fun r => if r = true then some (o, d, t, a, b, c, wordV x8 x9 x10 x11 x12 x13 x14 x15, g, true) else some (0, 0, 0, 0, 0, 0, 0, 0, false) := by
  obtain ⟨p8, q8⟩ := h8; obtain ⟨p9, q9⟩ := h9; obtain ⟨p10, q10⟩ := h10; obtain ⟨p11, q11⟩ := h11
  obtain ⟨p12, q12⟩ := h12; obtain ⟨p13, q13⟩ := h13; obtain ⟨p14, q14⟩ := h14; obtain ⟨p15, q15⟩ := h15
  have s0 := dec_step (k + 8) [x8, x9, x10, x11, x12, x13, x14, x15] 0 o d t a b c 0 g x8 rfl (by omega) rfl p8 q8 (by omega) (by omega)
  have s1 := dec_step (k + 7) [x8, x9, x10, x11, x12, x13, x14, x15] 1 o d t a b c x8 g x9 rfl (by omega) rfl p9 q9 (by omega) (by omega)
  have s2 := dec_step (k + 6) [x8, x9, x10, x11, x12, x13, x14, x15] 2 o d t a b c (x8 * 256 + x9) g x10 rfl (by omega) rfl p10 q10 (by omega) (by omega)
  have s3 := dec_step (k + 5) [x8, x9, x10, x11, x12, x13, x14, x15] 3 o d t a b c ((x8 * 256 + x9) * 256 + x10) g x11 rfl (by omega) rfl p11 q11 (by omega) (by omega)
  have s4 := dec_step (k + 4) [x8, x9, x10, x11, x12, x13, x14, x15] 4 o d t a b c (((x8 * 256 + x9) * 256 + x10) * 256 + x11) g x12 rfl (by omega) rfl p12 q12 (by omega) (by omega)
  have s5 := dec_step (k + 3) [x8, x9, x10, x11, x12, x13, x14, x15] 5 o d t a b c ((((x8 * 256 + x9) * 256 + x10) * 256 + x11) * 256 + x12) g x13 rfl (by omega) rfl p13 q13 (by omega) (by omega)
  have s6 := dec_step (k + 2) [x8, x9, x10, x11, x12, x13, x14, x15] 6 o d t a b c (((((x8 * 256 + x9) * 256 + x10) * 256 + x11) * 256 + x12) * 256 + x13) g x14 rfl (by omega) rfl p14 q14 (by omega) (by omega)
  have s7 := dec_step (k + 1) [x8, x9, x10, x11, x12, x13, x14, x15] 7 o d t a b c ((((((x8 * 256 + x9) * 256 + x10) * 256 + x11) * 256 + x12) * 256 + x13) * 256 + x14) g x15 rfl (by omega) rfl p15 q15 (by omega) (by omega)
  have e0 : (0 : Int) * 256 + x8 = x8 := by omega
  rw [e0] at s0
  refine s0.trans (s1.trans (s2.trans (s3.trans (s4.trans (s5.trans (s6.trans (s7.trans ?_)))))))
  rw [encode_Decode.l0, if_neg (by omega)]
  rfl
theorem dec_ev (x0 x1 x2 x3 x4 x5 x6 x7 x8 x9 x10 x11 x12 x13 x14 x15 : Int) (h0 : Byte x0) (h1 : Byte x1) (h2 : Byte x2) (h3 : Byte x3) (h4 : Byte x4) (h5 : Byte x5) (h6 : Byte x6) (h7 : Byte x7)
    (h8 : Byte x8) (h9 : Byte x9) (h10 : Byte x10) (h11 : Byte x11) (h12 : Byte x12) (h13 : Byte x13) (h14 : Byte x14) (h15 : Byte x15) :
    Ev (fun k => encode_Decode.f k [x0, x1, x2, x3, x4, x5, x6, x7, x8, x9, x10, x11, x12, x13, x14, x15])
      (if MayS x0 x1 (backS x2) (backS x3) (backS x4) (backS x5) (wordV x8 x9 x10 x11 x12 x13 x14 x15) (x6 * 256 + x7) then (x0, x1, backS x2, backS x3, backS x4, backS x5, wordV x8 x9 x10 x11 x12 x13 x14 x15, x6 * 256 + x7, true) else (0, 0, 0, 0, 0, 0, 0, 0, false)) := by
  have hr : ∀ k, encode_Decode.f k [x0, x1, x2, x3, x4, x5, x6, x7, x8, x9, x10, x11, x12, x13, x14, x15] = encode_Decode.l0 k [x8, x9, x10, x11, x12, x13, x14, x15] 8 0 x0 x1 (backS x2) (backS x3) (backS x4) (backS x5) 0 (x6 * 256 + x7) := by
    intro k
    unfold encode_Decode.f
    have r2 : rd [x0, x1, x2, x3, x4, x5, x6, x7, x8, x9, x10, x11, x12, x13, x14, x15] 2 = x2 := rfl
    have r3 : rd [x0, x1, x2, x3, x4, x5, x6, x7, x8, x9, x10, x11, x12, x13, x14, x15] 3 = x3 := rfl
    have r4 : rd [x0, x1, x2, x3, x4, x5, x6, x7, x8, x9, x10, x11, x12, x13, x14, x15] 4 = x4 := rfl
    have r5 : rd [x0, x1, x2, x3, x4, x5, x6, x7, x8, x9, x10, x11, x12, x13, x14, x15] 5 = x5 := rfl
    have r6 : rd [x0, x1, x2, x3, x4, x5, x6, x7, x8, x9, x10, x11, x12, x13, x14, x15] 6 = x6 := rfl
    have r7 : rd [x0, x1, x2, x3, x4, x5, x6, x7, x8, x9, x10, x11, x12, x13, x14, x15] 7 = x7 := rfl
    have r0 : rd [x0, x1, x2, x3, x4, x5, x6, x7, x8, x9, x10, x11, x12, x13, x14, x15] 0 = x0 := rfl
    have r1 : rd [x0, x1, x2, x3, x4, x5, x6, x7, x8, x9, x10, x11, x12, x13, x14, x15] 1 = x1 := rfl
    have hlen : (([x0, x1, x2, x3, x4, x5, x6, x7, x8, x9, x10, x11, x12, x13, x14, x15] : List Int).length : Int) = 16 := rfl
    rw [hlen, if_pos rfl, if_pos (by decide), if_pos (by decide), if_pos (by decide), r2, back_is x2 h2.1 h2.2]
    simp only [Option.bind_some]
    rw [if_pos (by decide), r3, back_is x3 h3.1 h3.2]
    simp only [Option.bind_some]
    rw [if_pos (by decide), r4, back_is x4 h4.1 h4.2]
    simp only [Option.bind_some]
    rw [if_pos (by decide), r5, back_is x5 h5.1 h5.2]
    simp only [Option.bind_some]
    rw [if_pos (by decide), if_pos (by decide), if_pos (by decide), r0, r1, r6, r7, or_i64 x6 x7 h6.1 h6.2 h7.1 h7.2, wrap_in (x := x0) (by have := h0.1; omega) (by have := h0.2; omega), wrap_in (x := x1) (by have := h1.1; omega) (by have := h1.2; omega)]
    rfl
  have hm := may_ev x0 x1 (backS x2) (backS x3) (backS x4) (backS x5) (wordV x8 x9 x10 x11 x12 x13 x14 x15) (x6 * 256 + x7)
  refine Ev.at_ ?_
  obtain ⟨K, hK⟩ := Ev.bind hm (r := if MayS x0 x1 (backS x2) (backS x3) (backS x4) (backS x5) (wordV x8 x9 x10 x11 x12 x13 x14 x15) (x6 * 256 + x7) then (x0, x1, backS x2, backS x3, backS x4, backS x5, wordV x8 x9 x10 x11 x12 x13 x14 x15, x6 * 256 + x7, true) else (0, 0, 0, 0, 0, 0, 0, 0, false))
    (f := fun _ r => if r = true then some (x0, x1, backS x2, backS x3, backS x4, backS x5, wordV x8 x9 x10 x11 x12 x13 x14 x15, x6 * 256 + x7, true) else some (0, 0, 0, 0, 0, 0, 0, 0, false)) (by
      by_cases hc : MayS x0 x1 (backS x2) (backS x3) (backS x4) (backS x5) (wordV x8 x9 x10 x11 x12 x13 x14 x15) (x6 * 256 + x7)
      · rw [decide_eq_true hc, if_pos hc]; exact Ev.pos rfl (Ev.done rfl)
      · rw [decide_eq_false hc, if_neg hc]; exact Ev.neg (by decide) (Ev.done rfl))
  refine ⟨K + 9, fun k hk => ?_⟩
  obtain ⟨m, rfl⟩ : ∃ m, k = m + 9 := ⟨k - 9, by omega⟩
  rw [hr, dec_loop m _ _ _ _ _ _ _ _ _ _ _ _ _ _ _ h8 h9 h10 h11 h12 h13 h14 h15]
  exact hK m (by omega)
/-- What is read of bytes has these bytes. -/
theorem dec_enc (x0 x1 x2 x3 x4 x5 x6 x7 x8 x9 x10 x11 x12 x13 x14 x15 : Int) (h0 : Byte x0) (h1 : Byte x1) (h2 : Byte x2) (h3 : Byte x3) (h4 : Byte x4) (h5 : Byte x5) (h6 : Byte x6) (h7 : Byte x7)
    (h8 : Byte x8) (h9 : Byte x9) (h10 : Byte x10) (h11 : Byte x11) (h12 : Byte x12) (h13 : Byte x13) (h14 : Byte x14) (h15 : Byte x15) :
    encS x0 x1 (backS x2) (backS x3) (backS x4) (backS x5) (wordV x8 x9 x10 x11 x12 x13 x14 x15) (x6 * 256 + x7) = [x0, x1, x2, x3, x4, x5, x6, x7, x8, x9, x10, x11, x12, x13, x14, x15] := by
  have hb : ∀ x, Byte x → regS (backS x) = x := by
    intro x ⟨p, q⟩
    unfold regS backS
    by_cases e : x = 255
    · rw [if_pos e, if_pos (by omega)]; omega
    · rw [if_neg e, if_neg (by omega)]; omega
  obtain ⟨p0, q0⟩ := h0; obtain ⟨p1, q1⟩ := h1; obtain ⟨p6, q6⟩ := h6; obtain ⟨p7, q7⟩ := h7
  obtain ⟨p8, q8⟩ := h8; obtain ⟨p9, q9⟩ := h9; obtain ⟨p10, q10⟩ := h10; obtain ⟨p11, q11⟩ := h11
  obtain ⟨p12, q12⟩ := h12; obtain ⟨p13, q13⟩ := h13; obtain ⟨p14, q14⟩ := h14; obtain ⟨p15, q15⟩ := h15
  have hd : headS x0 x1 (backS x2) (backS x3) (backS x4) (backS x5) (x6 * 256 + x7) = [x0, x1, x2, x3, x4, x5, x6, x7] := by
    unfold headS
    rw [hb x2 h2, hb x3 h3, hb x4 h4, hb x5 h5, show x0 % 256 = x0 by omega, show x1 % 256 = x1 by omega, show (x6 * 256 + x7) / 256 % 256 = x6 by omega, show (x6 * 256 + x7) % 256 = x7 by omega]
  have hw : wordS (wordV x8 x9 x10 x11 x12 x13 x14 x15) = [x8, x9, x10, x11, x12, x13, x14, x15] := by
    unfold wordS wordV
    refine List.cons_eq_cons.mpr ⟨by omega, List.cons_eq_cons.mpr ⟨by omega, List.cons_eq_cons.mpr ⟨by omega, List.cons_eq_cons.mpr ⟨by omega, List.cons_eq_cons.mpr ⟨by omega, List.cons_eq_cons.mpr ⟨by omega, List.cons_eq_cons.mpr ⟨by omega, List.cons_eq_cons.mpr ⟨by omega, rfl⟩⟩⟩⟩⟩⟩⟩⟩
  rw [encS, hd, hw]
  rfl
theorem back_reg (r : Int) (h0 : -1 ≤ r) (h1 : r ≤ 7) : backS (regS r) = r := by
  unfold backS regS
  by_cases h : r < 0
  · rw [if_pos h, if_pos rfl]; omega
  · rw [if_neg h, if_neg (by omega)]; omega
theorem word_back (v : Int) (h0 : 0 ≤ v) (h1 : v ≤ 18446744073709551615) :
    wordV (v / 72057594037927936 % 256) (v / 281474976710656 % 256) (v / 1099511627776 % 256) (v / 4294967296 % 256) (v / 16777216 % 256) (v / 65536 % 256) (v / 256 % 256) (v % 256) = v := by
  unfold wordV; omega
theorem byte_mod (x : Int) : Byte (x % 256) := by unfold Byte; omega
theorem byte_reg (x : Int) : Byte (regS x) := by unfold Byte regS; split <;> omega
theorem dec_of_enc {o d t a b c v g : Int} (h : Ok8 o d t a b c v g) : Ev (fun k => encode_Decode.f k (encS o d t a b c v g)) (o, d, t, a, b, c, v, g, true) := by
  have := dec_ev (o % 256) (d % 256) (regS t) (regS a) (regS b) (regS c) (g / 256 % 256) (g % 256) (v / 72057594037927936 % 256) (v / 281474976710656 % 256) (v / 1099511627776 % 256) (v / 4294967296 % 256) (v / 16777216 % 256) (v / 65536 % 256) (v / 256 % 256) (v % 256)
    (byte_mod _) (byte_mod _) (byte_reg _) (byte_reg _) (byte_reg _) (byte_reg _) (byte_mod _) (byte_mod _) (byte_mod _) (byte_mod _) (byte_mod _) (byte_mod _) (byte_mod _) (byte_mod _) (byte_mod _) (byte_mod _)
  rw [back_reg t h.t0 h.t1, back_reg a h.a0 h.a1, back_reg b h.b0 h.b1, back_reg c h.c0 h.c1, word_back v h.v0 h.v1, show o % 256 = o by have := h.o0; have := h.o1; omega, show d % 256 = d by have := h.d0; have := h.d1; omega,
    show g / 256 % 256 * 256 + g % 256 = g by have := h.g0; have := h.g1; omega, if_pos h.may] at this
  have e : encS o d t a b c v g = [o, d, regS t, regS a, regS b, regS c, g / 256 % 256, g % 256, v / 72057594037927936 % 256, v / 281474976710656 % 256, v / 1099511627776 % 256, v / 4294967296 % 256, v / 16777216 % 256, v / 65536 % 256, v / 256 % 256, v % 256] := by
    unfold encS headS wordS
    rw [show o % 256 = o by have := h.o0; have := h.o1; omega, show d % 256 = d by have := h.d0; have := h.d1; omega]
    rfl
  rw [e]
  exact this
/-! The law's bytes. -/
theorem four_is (n : Int) (h0 : 0 ≤ n) (h1 : n ≤ 4294967295) : tautochronelaw21_four.f n = some (b4 n) := by
  unfold tautochronelaw21_four.f b4
  have e1 : wrap64 (Int.tdiv n 16777216) = n / 16777216 := by rw [Int.tdiv_eq_ediv_of_nonneg h0, wrap_in (by omega) (by omega)]
  have e2 : wrap64 (Int.tdiv n 65536) = n / 65536 := by rw [Int.tdiv_eq_ediv_of_nonneg h0, wrap_in (by omega) (by omega)]
  have e3 : wrap64 (Int.tdiv n 256) = n / 256 := by rw [Int.tdiv_eq_ediv_of_nonneg h0, wrap_in (by omega) (by omega)]
  rw [e1, e2, e3, Int.tmod_eq_emod_of_nonneg (by omega), Int.tmod_eq_emod_of_nonneg (by omega), Int.tmod_eq_emod_of_nonneg h0]
  have a1 : n / 65536 % 256 % 256 = n / 65536 % 256 := by omega
  have a2 : n / 256 % 256 % 256 = n / 256 % 256 := by omega
  have a3 : n % 256 % 256 = n % 256 := by omega
  rw [a1, a2, a3]
theorem b4_len (n : Int) : (b4 n).length = 4 := rfl
theorem lbytes_l0 (L : List (List S46)) (c : Int) (hL : L.length ≤ 16) (hk : ∀ t ∈ L, thS c t) : ∀ (m i : Nat) (acc : List Int), i + m = L.length → acc.length ≤ 12 + 65540 * i →
    Ev (fun k => tautochronelaw21_bytes.l0 k acc L (L.length : Int) (i : Int)) (acc ++ (L.drop i).flatMap thB) := by
  intro m
  induction m with
  | zero =>
    intro i acc hi ha
    refine Ev.step (fun k => tautochronelaw21_bytes.l0.eq_2 ..) (Ev.neg (by omega) (Ev.done ?_))
    rw [List.drop_eq_nil_of_le (by omega)]; simp
  | succ m ih =>
    intro i acc hi ha
    have hlt : i < L.length := by omega
    refine Ev.step (fun k => tautochronelaw21_bytes.l0.eq_2 ..) (Ev.pos (by omega) (Ev.pos (by omega) (Ev.pos (by omega) ?_)))
    rw [rdL_at L i hlt, List.drop_eq_getElem_cons hlt]
    obtain ⟨t, ht⟩ : ∃ t, t = L[i] := ⟨_, rfl⟩
    have hkt := hk L[i] (List.getElem_mem hlt)
    rw [← ht] at hkt ⊢
    have htl := hkt.1.2.1
    have hall := all_ev t (by omega)
    rw [if_pos (fun x hx => (hkt.2 x hx).1)] at hall
    refine Ev.bind hall (Ev.pure (four_is _ (by omega) (by omega)) (Ev.pos (by rw [b4_len]; omega) (Ev.pure rfl ?_)))
    refine Ev.pos (by rw [List.length_append, flat_lenX, b4_len]; omega) ?_
    rw [nxt i (by omega)]
    have := ih (i + 1) (acc ++ b4 t.length ++ t.flatMap encX) (by omega) (by rw [List.length_append, List.length_append, flat_lenX, b4_len]; omega)
    rw [List.flatMap_cons, thB]
    simpa using this
theorem lbytes_ev (s c : Int) (L : List (List S46)) (h : imS s c L) : Ev (fun k => tautochronelaw21_bytes.f k s c L) (imB s c L) := by
  unfold tautochronelaw21_bytes.f
  obtain ⟨h0, h1, h2, h3, h4⟩ := h
  refine Ev.pure (four_is s (by omega) (by omega)) (Ev.pure (four_is c (by omega) (by omega)) (Ev.pos (by simp [b4]) (Ev.pure rfl (Ev.pure (four_is _ (by omega) (by omega)) (Ev.pos (by simp [b4]) ?_)))))
  have := lbytes_l0 L c h3 h4 L.length 0 (b4 s ++ b4 c ++ b4 L.length) (by omega) (by simp [b4])
  simpa [imB] using this
end Go.Proofs.Yteajbeajkplplaa.Pure
