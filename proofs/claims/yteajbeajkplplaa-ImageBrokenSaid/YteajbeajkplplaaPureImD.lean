/-
What image.Decode needs: the contract of its four byte numbers for any bytes, what Back gives of any bytes, and which bytes are no image's, plainly. Conditions: as each theorem states them.
-/
import Derived.Test.YteajbeajkplplaaPureImC
import Derived.Test.YteajbeajkplplaaRows
import Derived.WalkKit
import Derived.ProofKit
import Derived.Below
set_option linter.unusedSimpArgs false
set_option linter.unusedVariables false
namespace Go.Proofs.Yteajbeajkplplaa.Pure
open Go.RowKit Go.Proofs.YteajbeajkplplaaW.PrintWords Go.Proofs.YteajbeajkplplaaW.PrintLast Go.Proofs.YteajbeajkplplaaW.PrintMore Go.Proofs.Yteajbeajkplplaa.Kit
open Go.Proofs.Yteajbeajkplplaa.PImageBytes
attribute [local go_sem] max2_int min2_int max_two min_two max_three min_three max_four min_four   -- for this text's walks alone
theorem u8_at {w : World} {A : Option Addr} {n : Nat} {xs : List Int} (h : Kd.C (Kd.int .u8) w A n xs) (i : Nat) (hi : i < n) : ∃ ad, A = some ad ∧ w.cell? (ad.add i) = some (.int .u8 (xs.getD i 0)) := by
  obtain ⟨ad, c, e, _, hK, hc⟩ := Kd.C_get h 0 (i : Int) (by omega) (by omega)
  obtain rfl : c = [.int .u8 (xs.getD i 0)] := hK
  have := hc 0 _ rfl
  rw [Int.toNat_natCast] at this
  exact ⟨ad, e, by simpa [Kd.int, Kd.scalar] using this⟩
theorem C_V8 {w : World} {A : Option Addr} {c base : Nat} {l : List Int} (h : Kd.C (Kd.int .u8) w A l.length l) (hc : l.length ≤ c) : Kd.V (Kd.int .u8) 5 w base (fun k => k < w.heap.size) (.slice A l.length c) l := by
  refine ⟨A, c, rfl, hc, fun W' hW => ?_⟩
  have hr := Kd.reads_of_C (enc := Value.int .u8) (d := (0 : Int)) (h1 := fun _ => rfl) h
  refine Kd.C_of_reads (d := (0 : Int)) ⟨hr.1, hr.2.1, fun hn => ?_⟩
  obtain ⟨ad, e, hx⟩ := hr.2.2 hn
  refine ⟨ad, e, fun j hj => ?_⟩
  have h1 := hx j hj
  have hlt : (ad.add j).block < w.heap.size := World.block_lt_of_cell? w _ h1
  rw [World.cell?, hW _ hlt hlt]
  exact h1
def getV (x0 x1 x2 x3 : Int) : Int := Go.bits .or .i64 (Go.bits .or .i64 (Go.bits .or .i64 (wrap64 (wrap64 x0 * 16777216)) (wrap64 (wrap64 x1 * 65536))) (wrap64 (wrap64 x2 * 256))) (wrap64 x3)
set_option maxHeartbeats 4000000 in
theorem get.calls (A : Option Addr) (c : Nat) (l : List Int) (w : World) (hr : Kd.C (Kd.int .u8) w A l.length l) (hc : l.length ≤ c) :
    Calls Try.prog 23 #[.slice A l.length c] w fun e w' => e = .returned (if l.length < 4 then .tuple #[.int .i64 0, .slice none 0 0, .bool false] else .tuple #[.int .i64 (getV (l.getD 0 0) (l.getD 1 0) (l.getD 2 0) (l.getD 3 0)), .slice (if c = 4 then A else A.map (·.add (4 * 1))) (l.length - 4) (c - 4), .bool true]) ∧ Below w.heap.size w w' := by
  by_cases h4 : l.length < 4
  · rw [if_pos h4]
    have hb : decide ((l.length : Int) < 4) = true := decide_eq_true (by omega)
    go_enter Try.func23, Try.ntmps23
    go_wp2
    go_ret3
    exact ⟨rfl, Below.refl _ _⟩
  · rw [if_neg h4]
    have hb : decide ((l.length : Int) < 4) = false := decide_eq_false (by omega)
    obtain ⟨ad, rfl, y0⟩ := u8_at hr 0 (by omega)
    have yy : ∀ i : Nat, i < 4 → w.cell? (ad.add i) = some (.int .u8 (l.getD i 0)) := by
      intro i hi
      obtain ⟨ad', e, h⟩ := u8_at hr i (by omega)
      cases e; exact h
    rw [Addr.add_zero'] at y0
    have y1 : w.cell? ⟨ad.block, ad.off + 1, none⟩ = some (.int .u8 (l.getD 1 0)) := by simpa [Addr.add] using yy 1 (by omega)
    have y2 : w.cell? ⟨ad.block, ad.off + 2, none⟩ = some (.int .u8 (l.getD 2 0)) := by simpa [Addr.add] using yy 2 (by omega)
    have y3 : w.cell? ⟨ad.block, ad.off + 3, none⟩ = some (.int .u8 (l.getD 3 0)) := by simpa [Addr.add] using yy 3 (by omega)
    clear yy
    obtain ⟨i5, hi5, hz5⟩ := Option.map_eq_some_iff.1 info5
    simp only [Prod.mk.injEq] at hz5
    have hcut : ∀ wx : World, (Instr.slice 27 (.slice (some ad) l.length c) (some (.int .i64 4)) none none).run Try.prog wx = .ok (.slice (if c = 4 then some ad else (some ad).map (·.add (4 * 1))) (l.length - 4) (c - 4)) wx := by
      intro wx
      exact cut_from (P := Try.prog) 27 5 .i64 Try.underlying27 hi5 1 hz5.2.1 (some ad) l.length c 4 (by omega) (by omega) wx
    generalize l.getD 0 0 = x0 at y0 ⊢
    generalize l.getD 1 0 = x1 at y1 ⊢
    generalize l.getD 2 0 = x2 at y2 ⊢
    generalize l.getD 3 0 = x3 at y3 ⊢
    generalize (if c = 4 then some ad else (some ad).map (·.add (4 * 1))) = A' at hcut ⊢
    have lt0 : 0 < l.length := by omega
    have lt1 : (1 : Int) < (l.length : Int) := by omega
    have lt2 : (2 : Int) < (l.length : Int) := by omega
    have lt3 : (3 : Int) < (l.length : Int) := by omega
    go_enter Try.func23, Try.ntmps23
    go_upto_region 3 with go_in
    go_quiet (fail)
    go_wp2
    go_ret3
    exact ⟨rfl, pw_below_drewN (Below.refl _ _) _⟩
theorem bits_or_nat (x y : Nat) (hx : x < 4611686018427387904) (hy : y < 4611686018427387904) (hxy : x ||| y < 4611686018427387904) : Go.bits .or .i64 (x : Int) (y : Int) = ((x ||| y : Nat) : Int) := by
  have h1 : (BitVec.ofInt 64 (x : Int)).toNat = x := by
    rw [BitVec.ofInt_natCast, BitVec.toNat_ofNat]; exact Nat.mod_eq_of_lt (by omega)
  have h2 : (BitVec.ofInt 64 (y : Int)).toNat = y := by
    rw [BitVec.ofInt_natCast, BitVec.toNat_ofNat]; exact Nat.mod_eq_of_lt (by omega)
  show IntKind.i64.wrap ((BitVec.ofInt 64 (x : Int) ||| BitVec.ofInt 64 (y : Int)).toNat : Int) = _
  rw [BitVec.toNat_or, h1, h2]
  have : IntKind.i64.wrap ((x ||| y : Nat) : Int) = wrap64 ((x ||| y : Nat) : Int) := by
    simp only [wrap64, IntKind.wrap, IntKind.bits, IntKind.signed]
    simp
    split <;> omega
  rw [this, wrap_in (by omega) (by omega)]
theorem or_sum (i a b : Nat) (hb : b < 2 ^ i) : a * 2 ^ i ||| b = a * 2 ^ i + b := by
  rw [Nat.mul_comm]; exact (Nat.two_pow_add_eq_or_of_lt hb a).symm
theorem getV_is (x0 x1 x2 x3 : Int) (h0 : Byte x0) (h1 : Byte x1) (h2 : Byte x2) (h3 : Byte x3) : getV x0 x1 x2 x3 = nb x0 x1 x2 x3 := by
  obtain ⟨p0, q0⟩ := h0; obtain ⟨p1, q1⟩ := h1; obtain ⟨p2, q2⟩ := h2; obtain ⟨p3, q3⟩ := h3
  unfold getV nb
  rw [wrap_in (x := x0) (by omega) (by omega), wrap_in (x := x1) (by omega) (by omega), wrap_in (x := x2) (by omega) (by omega), wrap_in (x := x3) (by omega) (by omega),
    wrap_in (x := x0 * 16777216) (by omega) (by omega), wrap_in (x := x1 * 65536) (by omega) (by omega), wrap_in (x := x2 * 256) (by omega) (by omega)]
  obtain ⟨a, rfl⟩ : ∃ a : Nat, x0 = a := ⟨x0.toNat, by omega⟩
  obtain ⟨b, rfl⟩ : ∃ b : Nat, x1 = b := ⟨x1.toNat, by omega⟩
  obtain ⟨c, rfl⟩ : ∃ c : Nat, x2 = c := ⟨x2.toNat, by omega⟩
  obtain ⟨d, rfl⟩ : ∃ d : Nat, x3 = d := ⟨x3.toNat, by omega⟩
  have e1 : a * 16777216 ||| b * 65536 = a * 16777216 + b * 65536 := or_sum 24 a (b * 65536) (by omega)
  have e2 : (a * 16777216 + b * 65536) ||| c * 256 = a * 16777216 + b * 65536 + c * 256 := by
    have := or_sum 16 (a * 256 + b) (c * 256) (by omega)
    rw [show (a * 256 + b) * 2 ^ 16 = a * 16777216 + b * 65536 by omega] at this; exact this
  have e3 : (a * 16777216 + b * 65536 + c * 256) ||| d = a * 16777216 + b * 65536 + c * 256 + d := by
    have := or_sum 8 (a * 65536 + b * 256 + c) d (by omega)
    rw [show (a * 65536 + b * 256 + c) * 2 ^ 8 = a * 16777216 + b * 65536 + c * 256 by omega] at this; exact this
  rw [show ((a : Int) * 16777216) = ((a * 16777216 : Nat) : Int) by omega, show ((b : Int) * 65536) = ((b * 65536 : Nat) : Int) by omega, show ((c : Int) * 256) = ((c * 256 : Nat) : Int) by omega]
  rw [bits_or_nat _ _ (by omega) (by omega) (by rw [e1]; omega), e1, bits_or_nat _ _ (by omega) (by omega) (by rw [e2]; omega), e2, bits_or_nat _ _ (by omega) (by omega) (by rw [e3]; omega), e3]
  omega
theorem nb_b4 (x0 x1 x2 x3 : Int) (h0 : Byte x0) (h1 : Byte x1) (h2 : Byte x2) (h3 : Byte x3) : b4 (nb x0 x1 x2 x3) = [x0, x1, x2, x3] ∧ 0 ≤ nb x0 x1 x2 x3 ∧ nb x0 x1 x2 x3 ≤ 4294967295 := by
  obtain ⟨p0, q0⟩ := h0; obtain ⟨p1, q1⟩ := h1; obtain ⟨p2, q2⟩ := h2; obtain ⟨p3, q3⟩ := h3
  refine ⟨?_, by unfold nb; omega, by unfold nb; omega⟩
  unfold b4 nb
  rw [show (x0 * 16777216 + x1 * 65536 + x2 * 256 + x3) / 16777216 % 256 = x0 by omega, show (x0 * 16777216 + x1 * 65536 + x2 * 256 + x3) / 65536 % 256 = x1 by omega, show (x0 * 16777216 + x1 * 65536 + x2 * 256 + x3) / 256 % 256 = x2 by omega, show (x0 * 16777216 + x1 * 65536 + x2 * 256 + x3) % 256 = x3 by omega]
/-- Four bytes read: the number, and that it and the rest are the bytes. -/
theorem take4 (l : List Int) (hb : ∀ x ∈ l, Byte x) (h : 4 ≤ l.length) : ∃ n, getV (l.getD 0 0) (l.getD 1 0) (l.getD 2 0) (l.getD 3 0) = n ∧ 0 ≤ n ∧ n ≤ 4294967295 ∧ l = b4 n ++ l.drop 4 := by
  match l, h with
  | x0 :: x1 :: x2 :: x3 :: r, _ =>
    have b0 := hb x0 (by simp)
    have b1 := hb x1 (by simp)
    have b2 := hb x2 (by simp)
    have b3 := hb x3 (by simp)
    obtain ⟨e, h0, h1⟩ := nb_b4 x0 x1 x2 x3 b0 b1 b2 b3
    refine ⟨nb x0 x1 x2 x3, getV_is x0 x1 x2 x3 b0 b1 b2 b3, h0, h1, ?_⟩
    rw [e]; rfl
/-- What Back makes of any bytes. -/
theorem dec16 (l : List Int) (hb : ∀ x ∈ l, Byte x) (h : l.length = 16) : (∃ x : S46, Ev (fun k => encode_Decode.f k l) (x.f0, x.f1, x.f2, x.f3, x.f4, x.f5, x.f6, x.f7, true) ∧ okX x ∧ U64 x ∧ encX x = l) ∨
    (Ev (fun k => encode_Decode.f k l) (0, 0, 0, 0, 0, 0, 0, 0, false) ∧ ∀ x : S46, Ok46 x → encX x ≠ l) := by
  match l, h, hb with
  | [x0, x1, x2, x3, x4, x5, x6, x7, x8, x9, x10, x11, x12, x13, x14, x15], hl, hb =>
    have b0 := hb x0 (by simp)
    have b1 := hb x1 (by simp)
    have b2 := hb x2 (by simp)
    have b3 := hb x3 (by simp)
    have b4 := hb x4 (by simp)
    have b5 := hb x5 (by simp)
    have b6 := hb x6 (by simp)
    have b7 := hb x7 (by simp)
    have b8 := hb x8 (by simp)
    have b9 := hb x9 (by simp)
    have b10 := hb x10 (by simp)
    have b11 := hb x11 (by simp)
    have b12 := hb x12 (by simp)
    have b13 := hb x13 (by simp)
    have b14 := hb x14 (by simp)
    have b15 := hb x15 (by simp)
    have hd := dec_ev x0 x1 x2 x3 x4 x5 x6 x7 x8 x9 x10 x11 x12 x13 x14 x15 b0 b1 b2 b3 b4 b5 b6 b7 b8 b9 b10 b11 b12 b13 b14 b15
    by_cases hm : MayS x0 x1 (backS x2) (backS x3) (backS x4) (backS x5) (wordV x8 x9 x10 x11 x12 x13 x14 x15) (x6 * 256 + x7)
    · rw [if_pos hm] at hd
      refine .inl ⟨⟨x0, x1, backS x2, backS x3, backS x4, backS x5, wordV x8 x9 x10 x11 x12 x13 x14 x15, x6 * 256 + x7⟩, hd, hm, ?_, ?_⟩
      · obtain ⟨p8, q8⟩ := b8; obtain ⟨p9, q9⟩ := b9; obtain ⟨p10, q10⟩ := b10; obtain ⟨p11, q11⟩ := b11
        obtain ⟨p12, q12⟩ := b12; obtain ⟨p13, q13⟩ := b13; obtain ⟨p14, q14⟩ := b14; obtain ⟨p15, q15⟩ := b15
        show 0 ≤ wordV x8 x9 x10 x11 x12 x13 x14 x15 ∧ wordV x8 x9 x10 x11 x12 x13 x14 x15 ≤ 18446744073709551615
        unfold wordV; omega
      · exact dec_enc x0 x1 x2 x3 x4 x5 x6 x7 x8 x9 x10 x11 x12 x13 x14 x15 b0 b1 b2 b3 b4 b5 b6 b7 b8 b9 b10 b11 b12 b13 b14 b15
    · rw [if_neg hm] at hd
      refine .inr ⟨hd, fun x hx e => hm ?_⟩
      have h2 := dec_of_enc hx
      rw [show encS x.f0 x.f1 x.f2 x.f3 x.f4 x.f5 x.f6 x.f7 = [x0, x1, x2, x3, x4, x5, x6, x7, x8, x9, x10, x11, x12, x13, x14, x15] from e] at h2
      obtain ⟨k1, e1⟩ := hd
      obtain ⟨k2, e2⟩ := h2
      have e3 := (e1 (k1 + k2) (by omega)).symm.trans (e2 (k1 + k2) (by omega))
      simp at e3
theorem back_gen : ∀ (n : Nat) (l : List Int) (acc : List S46), l.length ≤ n → (∀ x ∈ l, Byte x) → acc.length * 16 + l.length ≤ 35184372088816 → ∃ r, Ev (fun k => encode_Back.l0 k l acc) r ∧
    ((∃ cs, r = (acc ++ cs, true) ∧ cs.flatMap encX = l ∧ ∀ x ∈ cs, okX x ∧ U64 x) ∨ (r = ([], false) ∧ ∀ cs : List S46, (∀ x ∈ cs, Ok46 x) → cs.flatMap encX ≠ l)) := by
  intro n
  induction n with
  | zero =>
    intro l acc hl hb hac
    obtain rfl : l = [] := List.eq_nil_of_length_eq_zero (by omega)
    exact ⟨_, Ev.step (fun k => encode_Back.l0.eq_2 ..) (Ev.neg (by simp) (Ev.done rfl)), .inl ⟨[], by simp, rfl, by simp⟩⟩
  | succ n ih =>
    intro l acc hl hb hac
    by_cases h0 : l.length = 0
    · obtain rfl : l = [] := List.eq_nil_of_length_eq_zero h0
      exact ⟨_, Ev.step (fun k => encode_Back.l0.eq_2 ..) (Ev.neg (by simp) (Ev.done rfl)), .inl ⟨[], by simp, rfl, by simp⟩⟩
    · by_cases h16 : l.length < 16
      · refine ⟨_, Ev.step (fun k => encode_Back.l0.eq_2 ..) (Ev.pos (by omega) (Ev.pos (by omega) (Ev.done rfl))), .inr ⟨rfl, fun cs _ e => ?_⟩⟩
        have := flat_lenX cs
        rw [e] at this
        omega
      · have htd : l = l.take 16 ++ l.drop 16 := (List.take_append_drop 16 l).symm
        have part : ∀ cs : List S46, cs.flatMap encX = l → ∃ y r, cs = y :: r ∧ encX y = l.take 16 ∧ r.flatMap encX = l.drop 16 := by
          intro cs e
          match cs with
          | [] => rw [← e] at h0; exact absurd rfl h0
          | y :: r =>
            rw [List.flatMap_cons] at e
            refine ⟨y, r, rfl, ?_, ?_⟩
            · rw [← e, List.take_left' (encX_len _)]
            · rw [← e, List.drop_left' (encX_len _)]
        rcases dec16 (l.take 16) (fun x hx => hb x (List.mem_of_mem_take hx)) (by rw [List.length_take]; omega) with ⟨x, hd, hx1, hx2, hx3⟩ | ⟨hd, hno⟩
        · obtain ⟨r, hr, hcase⟩ := ih (l.drop 16) (acc ++ [x]) (by rw [List.length_drop]; omega) (fun y hy => hb y (List.mem_of_mem_drop hy)) (by rw [List.length_drop, List.length_append, List.length_singleton]; omega)
          refine ⟨r, Ev.step (fun k => encode_Back.l0.eq_2 ..) (Ev.pos (by omega) (Ev.neg (by omega) (Ev.pos (by omega) (Ev.bind hd (Ev.pos rfl (Ev.pos (by omega) hr)))))), ?_⟩
          rcases hcase with ⟨cs, e1, e2, e3⟩ | ⟨e1, e2⟩
          · refine .inl ⟨x :: cs, by rw [e1]; simp, by rw [List.flatMap_cons, hx3, e2]; exact htd.symm, fun y hy => ?_⟩
            rcases List.mem_cons.mp hy with rfl | hy
            · exact ⟨hx1, hx2⟩
            · exact e3 y hy
          · refine .inr ⟨e1, fun cs hcs e => ?_⟩
            obtain ⟨y, q, rfl, _, h2⟩ := part cs e
            exact e2 q (fun z hz => hcs z (List.mem_cons_of_mem _ hz)) h2
        · refine ⟨_, Ev.step (fun k => encode_Back.l0.eq_2 ..) (Ev.pos (by omega) (Ev.neg (by omega) (Ev.pos (by omega) (Ev.bind hd (Ev.neg (by decide) (Ev.done rfl)))))), .inr ⟨rfl, fun cs hcs e => ?_⟩⟩
          obtain ⟨y, q, rfl, h1, _⟩ := part cs e
          exact hno y (hcs y List.mem_cons_self) h1
theorem back_some (l : List Int) (hb : ∀ x ∈ l, Byte x) (hl : l.length ≤ 35184372088816) : ∃ k cs ok, encode_Back.f k l = some (cs, ok) ∧ ((ok = true ∧ cs.flatMap encX = l ∧ ∀ x ∈ cs, okX x ∧ U64 x) ∨ (ok = false ∧ cs = [] ∧ ∀ cs : List S46, (∀ x ∈ cs, Ok46 x) → cs.flatMap encX ≠ l)) := by
  obtain ⟨r, hr, h⟩ := back_gen l.length l [] (Nat.le_refl _) hb (by simpa using hl)
  obtain ⟨k, hk⟩ := Ev.rounds hr
  rcases h with ⟨cs, e1, e2, e3⟩ | ⟨e1, e2⟩
  · exact ⟨k, cs, true, by rw [e1, List.nil_append] at hk; exact hk, .inl ⟨rfl, e2, e3⟩⟩
  · exact ⟨k, [], false, by rw [e1] at hk; exact hk, .inr ⟨rfl, rfl, e2⟩⟩
/-! What Decode has read so far, and what no image can be then. -/
def NoIm (b : List Int) : Prop := ∀ (s c : Int) (L : List (List S46)), imS s c L → (∀ t ∈ L, ∀ x ∈ t, U64 x) → imB s c L ≠ b
def Codes (L : List (List S46)) : Prop := ∀ t ∈ L, t.length ≤ 4096 ∧ ∀ x ∈ t, Ok46 x
theorem im_codes {s c : Int} {L : List (List S46)} (h : imS s c L) (hu : ∀ t ∈ L, ∀ x ∈ t, U64 x) : Codes L := fun t ht => ⟨(h.2.2.2.2 t ht).1.2.1, fun x hx => may_ok ((h.2.2.2.2 t ht).2 x hx).1 (hu t ht x hx)⟩
def Pre (b : List Int) (s c n : Int) (L : List (List S46)) (rest : List Int) : Prop := b = b4 s ++ (b4 c ++ (b4 n ++ (L.flatMap thB ++ rest)))
theorem pre_im {b : List Int} {s c n : Int} {L : List (List S46)} {rest : List Int} (hp : Pre b s c n L rest) (s0 : 0 ≤ s) (s1 : s ≤ 4294967295) (c0 : 0 ≤ c) (c1 : c ≤ 4294967295) (n0 : 0 ≤ n) (n1 : n ≤ 4294967295)
    {s' c' : Int} {L' : List (List S46)} (him : imS s' c' L') (h : imB s' c' L' = b) : s' = s ∧ c' = c ∧ (L'.length : Int) = n ∧ L'.flatMap thB = L.flatMap thB ++ rest := by
  obtain ⟨l0, l1, l2, l3, _⟩ := him
  unfold imB at h
  rw [hp] at h
  simp only [List.append_assoc] at h
  have h1 := b4_app (by omega) (by omega) (by omega) (by omega) h
  have h2 := b4_app (by omega) (by omega) (by omega) (by omega) h1.2
  have h3 := b4_app (by omega) (by omega) (by omega) (by omega) h2.2
  exact ⟨h1.1, h2.1, h3.1, h3.2⟩
theorem pre_split {L L' : List (List S46)} {rest : List Int} (hL : Codes L) (hL' : Codes L') (hlt : L.length < L'.length) (h : L'.flatMap thB = L.flatMap thB ++ rest) :
    ∃ (t : List S46) (L2 : List (List S46)), t ∈ L' ∧ rest = b4 t.length ++ (t.flatMap encX ++ L2.flatMap thB) := by
  have e : L' = L'.take L.length ++ L'.drop L.length := (List.take_append_drop _ _).symm
  rw [e, List.flatMap_append] at h
  have h2 := ths_inj (L'.take L.length) L ((L'.drop L.length).flatMap thB) rest (by rw [List.length_take]; omega) (fun t ht => hL' t (List.mem_of_mem_take ht)) hL h
  rw [List.drop_eq_getElem_cons hlt] at h2
  refine ⟨L'[L.length], L'.drop (L.length + 1), List.getElem_mem hlt, ?_⟩
  rw [← h2.2, List.flatMap_cons, thB, List.append_assoc]
theorem pre_end {L L' : List (List S46)} {rest : List Int} (hL : Codes L) (hL' : Codes L') (hlt : L.length = L'.length) (h : L'.flatMap thB = L.flatMap thB ++ rest) : L' = L ∧ rest = [] := by
  have h2 := ths_inj L' L [] rest hlt.symm hL' hL (by simpa using h)
  exact ⟨h2.1, h2.2.symm⟩
theorem no_short {b : List Int} (h : b.length < 12) : NoIm b := by
  intro s c L _ _ e
  rw [← e] at h
  simp [imB, b4] at h
  omega
theorem no_many {b : List Int} {s c n : Int} {rest : List Int} (hp : Pre b s c n [] rest) (s0 : 0 ≤ s) (s1 : s ≤ 4294967295) (c0 : 0 ≤ c) (c1 : c ≤ 4294967295) (n0 : 0 ≤ n) (n1 : n ≤ 4294967295) (hn : 16 < n) : NoIm b := by
  intro s' c' L' him _ e
  have := pre_im hp s0 s1 c0 c1 n0 n1 him e
  have := him.2.2.2.1
  omega
section
variable {b : List Int} {s c n : Int} {L : List (List S46)} {rest : List Int} (hp : Pre b s c n L rest) (s0 : 0 ≤ s) (s1 : s ≤ 4294967295) (c0 : 0 ≤ c) (c1 : c ≤ 4294967295) (n0 : 0 ≤ n) (n1 : n ≤ 16) (hL : Codes L)
include hp s0 s1 c0 c1 n0 n1 hL
theorem no_next (hlt : (L.length : Int) < n) (hno : ∀ (t : List S46) (r : List Int), t.length ≤ 4096 → (∀ x ∈ t, Ok46 x) → rest ≠ b4 t.length ++ (t.flatMap encX ++ r)) : NoIm b := by
  intro s' c' L' him hu e
  obtain ⟨_, _, e3, e4⟩ := pre_im hp s0 s1 c0 c1 n0 (by omega) him e
  have hc' := im_codes him hu
  obtain ⟨t, L2, ht, er⟩ := pre_split hL hc' (by omega) e4
  exact hno t _ (hc' t ht).1 (hc' t ht).2 er
theorem no_last (heq : (L.length : Int) = n) (hno : rest ≠ [] ∨ ¬ imS s c L) : NoIm b := by
  intro s' c' L' him hu e
  obtain ⟨e1, e2, e3, e4⟩ := pre_im hp s0 s1 c0 c1 n0 (by omega) him e
  obtain ⟨e5, e6⟩ := pre_end hL (im_codes him hu) (by omega) e4
  subst e1 e2 e5
  rcases hno with h | h
  · exact h e6
  · exact h him
end
theorem no_rest4 {rest : List Int} (h : rest.length < 4) : ∀ (t : List S46) (r : List Int), t.length ≤ 4096 → (∀ x ∈ t, Ok46 x) → rest ≠ b4 t.length ++ (t.flatMap encX ++ r) := by
  intro t r _ _ e
  rw [e] at h
  simp [b4] at h
  omega
theorem no_size {m : Int} {rest1 : List Int} (m0 : 0 ≤ m) (m1 : m ≤ 4294967295) (h : 4096 < m ∨ (rest1.length : Int) < m * 16 ∨ ∀ cs : List S46, (∀ x ∈ cs, Ok46 x) → cs.flatMap encX ≠ rest1.take (m * 16).toNat) :
    ∀ (t : List S46) (r : List Int), t.length ≤ 4096 → (∀ x ∈ t, Ok46 x) → b4 m ++ rest1 ≠ b4 t.length ++ (t.flatMap encX ++ r) := by
  intro t r ht hx e
  have h1 := b4_app m0 m1 (by omega) (by omega) e
  have hl := flat_lenX t
  rcases h with h | h | h
  · omega
  · have := congrArg List.length h1.2
    rw [List.length_append, hl] at this
    omega
  · refine h t hx ?_
    have e16 : (m * 16).toNat = (t.flatMap encX).length := by rw [hl]; omega
    rw [h1.2, e16, List.take_left]
theorem pre_next {b : List Int} {s c n m : Int} {L : List (List S46)} {rest1 : List Int} {cs : List S46} (hp : Pre b s c n L (b4 m ++ rest1)) (m0 : 0 ≤ m) (hm : m * 16 ≤ rest1.length) (hcs : cs.flatMap encX = rest1.take (m * 16).toNat) :
    Pre b s c n (L ++ [cs]) (rest1.drop (m * 16).toNat) ∧ (cs.length : Int) = m := by
  have hl := flat_lenX cs
  rw [hcs, List.length_take] at hl
  have hlen : (cs.length : Int) = m := by omega
  refine ⟨?_, hlen⟩
  unfold Pre at hp ⊢
  rw [hp]
  simp only [List.flatMap_append, List.flatMap_cons, List.flatMap_nil, List.append_nil, thB, List.append_assoc, hcs, hlen, List.take_append_drop]
end Go.Proofs.Yteajbeajkplplaa.Pure
