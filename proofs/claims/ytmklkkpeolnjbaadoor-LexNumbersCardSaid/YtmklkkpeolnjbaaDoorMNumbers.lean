/-
LexNumbers: a number's digits are read as it; noughts ahead change nothing. Conditions: as each theorem states them.
-/
import Derived.Test.YtmklkkpeolnjbaaDoorMPlaces
set_option linter.unusedVariables false
set_option linter.unusedSimpArgs false
namespace Go.Proofs.YtmklkkpeolnjbaaDoor.Lex
open Go.RowKit Go.Proofs.YtmklkkpeolnjbaaDoorW.PrintWords Go.Proofs.YtmklkkpeolnjbaaDoorW.PrintLast Go.Proofs.YtmklkkpeolnjbaaDoorW.PrintMore
open Go.Proofs.YtmklkkpeolnjbaaDoor.Kit Go.ChangeMaps Go.MapKept
open Go.Proofs.YtmklkkpeolnjbaaDoor.PLexCut
/-- Digits as bytes. -/
def digB (ds : List Nat) : ByteArray := ⟨(ds.map fun d => UInt8.ofNat (48 + d)).toArray⟩
def valD (a : Nat) (ds : List Nat) : Nat := ds.foldl (fun a d => a * 10 + d) a
theorem digB_size (ds : List Nat) : (digB ds).size = ds.length := by simp [digB, ByteArray.size]
theorem digB_bt (ds : List Nat) (hd : ∀ d ∈ ds, d < 10) (i : Nat) (h : i < ds.length) : bt (digB ds) (i : Int) = 48 + (ds[i] : Int) := by
  have h2 : i < (digB ds).size := by rw [digB_size]; exact h
  have h3 := bt_at (digB ds) (i : Int) (by simpa using h2)
  rw [← h3]
  have hl : ds[i] < 10 := hd _ (List.getElem_mem h)
  have e : ((digB ds)[i]'h2) = UInt8.ofNat (48 + ds[i]) := by
    show (digB ds).data[i] = _
    simp [digB]
  have e2 : ((digB ds)[i]'h2).toNat = 48 + ds[i] := by
    rw [e, UInt8.toNat_ofNat', Nat.mod_eq_of_lt (by omega)]
  simp only [Int.toNat_natCast]
  rw [e2]
  push_cast
  rfl
theorem valD_acc : ∀ (ds : List Nat) (a : Nat), valD a ds = a * 10 ^ ds.length + valD 0 ds
  | [], a => by simp [valD]
  | d :: ds, a => by
    have h1 := valD_acc ds (a * 10 + d)
    have h2 := valD_acc ds (0 * 10 + d)
    show valD (a * 10 + d) ds = _
    rw [h1]
    show _ = a * 10 ^ (ds.length + 1) + valD (0 * 10 + d) ds
    rw [h2, Nat.pow_succ]
    have : a * (10 ^ ds.length * 10) = (a * 10) * 10 ^ ds.length := by rw [Nat.mul_comm (10 ^ ds.length) 10, Nat.mul_assoc]
    rw [this, Nat.add_mul, Nat.zero_mul, Nat.zero_add]
    omega
theorem valD_cons (d : Nat) (ds : List Nat) : valD 0 (d :: ds) = d * 10 ^ ds.length + valD 0 ds := by
  show valD (0 * 10 + d) ds = _
  rw [valD_acc, Nat.zero_mul, Nat.zero_add]
theorem valD_ge (a : Nat) (ds : List Nat) : a ≤ valD a ds := by
  rw [valD_acc]
  have := Nat.pow_pos (n := ds.length) (show 0 < 10 by decide)
  have := Nat.le_mul_of_pos_right a this
  omega
theorem numL_dig (ds : List Nat) (hd : ∀ d ∈ ds, d < 10) : ∀ (r : List Nat) (i a : Nat), ds.drop i = r → valD a r ≤ 18446744073709551615 → numL (digB ds) r.length (a : Int) i = (((valD a r : Nat) : Int), true)
  | [], i, a, _, _ => rfl
  | d :: r, i, a, h, hv => by
    have hi : i < ds.length := by
      apply Nat.lt_of_not_le
      intro hh
      rw [List.drop_eq_nil_of_le hh] at h
      cases h
    rw [List.drop_eq_getElem_cons hi] at h
    injection h with h1 h2
    have hb := digB_bt ds hd i hi
    rw [h1] at hb
    have hd10 : d < 10 := h1 ▸ hd _ (List.getElem_mem hi)
    have hge := valD_ge (a * 10 + d) r
    replace hv : valD (a * 10 + d) r ≤ 18446744073709551615 := hv
    show numL (digB ds) (r.length + 1) (a : Int) i = (((valD (a * 10 + d) r : Nat) : Int), true)
    rw [numL, hb]
    have e1 : ((48 + (d : Int) - 48) % 256) = (d : Int) := by omega
    rw [e1, if_neg (by omega)]
    have e2 : IntKind.u64.wrap (IntKind.u64.wrap ((a : Int) * 10) + (d : Int)) = ((a * 10 + d : Nat) : Int) := by
      rw [IntKind.wrap_u64, IntKind.wrap_u64]; omega
    rw [e2]
    exact numL_dig ds hd r (i + 1) (a * 10 + d) h2 hv
theorem runS_all {p : Int → Bool} {s : ByteArray} : ∀ (m i : Nat), s.size - i = m → i ≤ s.size → (∀ j, i ≤ j → j < s.size → p (bt s (j : Int)) = true) → runS p s i = s.size
  | 0, i, h, hi, hp => by rw [runS_off (fun h => by omega)]; omega
  | m + 1, i, h, hi, hp => by
    rw [runS_on (by omega) (hp i (Nat.le_refl _) (by omega))]
    exact runS_all m (i + 1) (by omega) (by omega) (fun j h1 h2 => hp j (by omega) h2)
theorem ext_all (s : ByteArray) : s.extract 0 s.size = s := by
  exact ByteArray.extract_zero_size
theorem num_cut (ds : List Nat) (hd : ∀ d ∈ ds, d < 10) (hl : 0 < ds.length) (n : Nat) (hn : n ≤ 18446744073709551615) (hv : valD 0 ds = n) : cutS (digB ds) ((digB ds).size + 1) 0 [] = .inl [⟨3, digB ds, n, 0⟩, endTok (digB ds)] := by
  have hs := digB_size ds
  have hb0 := digB_bt ds hd 0 hl
  have hd0 : ds[0] < 10 := hd _ (List.getElem_mem hl)
  have hnum : numS (digB ds) = ((n : Int), true) := by
    unfold numS
    rw [hs]
    have := numL_dig ds hd ds 0 0 rfl (by omega)
    rw [hv] at this
    exact this
  have hrun : runS isDigit (digB ds) 0 = (digB ds).size := runS_all _ 0 rfl (by omega) (fun j _ h2 => by
    have hj : j < ds.length := by omega
    rw [digB_bt ds hd j hj]
    have := hd _ (List.getElem_mem hj)
    exact decide_eq_true (by omega))
  have hst : stepS (digB ds) 0 = .tok ⟨3, digB ds, n, 0⟩ (digB ds).size := by
    unfold stepS
    rw [show ((0 : Nat) : Int) = 0 from rfl] at *
    rw [hb0]
    rw [if_neg (by unfold isBlank; rw [decide_eq_false (by omega)]; decide), if_neg (by omega), if_neg (by unfold isLetter; rw [decide_eq_false (by omega), decide_eq_false (by omega)]; decide), if_pos (by unfold isDigit; exact decide_eq_true (by omega)), hrun, ext_all, hnum]
    rw [if_neg (by rintro (h | ⟨h, _⟩); exact Bool.noConfusion h; omega)]
  rw [cutS, if_pos (by omega), hst]
  simp only [List.nil_append]
  obtain ⟨m, hm⟩ : ∃ m, (digB ds).size = m + 1 := ⟨(digB ds).size - 1, by omega⟩
  rw [show cutS (digB ds) (digB ds).size (digB ds).size [⟨3, digB ds, n, 0⟩] = cutS (digB ds) (m + 1) (digB ds).size [⟨3, digB ds, n, 0⟩] by rw [← hm], cutS, if_neg (by omega)]
  rfl
theorem digB_cons (d : Nat) (hd : d < 10) (ds : List Nat) : Utf8.encode (48 + (d : Int)) ++ digB ds = digB (d :: ds) := by
  have e : Utf8.encode (48 + (d : Int)) = digB [d] := by
    obtain rfl | rfl | rfl | rfl | rfl | rfl | rfl | rfl | rfl | rfl : d = 0 ∨ d = 1 ∨ d = 2 ∨ d = 3 ∨ d = 4 ∨ d = 5 ∨ d = 6 ∨ d = 7 ∨ d = 8 ∨ d = 9 := by omega
    all_goals decide
  rw [e]
  apply ByteArray.ext
  simp [digB]
theorem digB_zero (ds : List Nat) : (⟨#[48]⟩ : ByteArray) ++ digB ds = digB (0 :: ds) := by
  apply ByteArray.ext
  simp [digB]
theorem digB_nil : digB [] = ⟨#[]⟩ := rfl
theorem digits_step {n m : Nat} {ds : List Nat} (hn : n ≤ 18446744073709551615) (hm : 0 < m) (h : m * 10 ^ ds.length + valD 0 ds = n) : ds.length < 20 ∧ m / 10 * 10 ^ (m % 10 :: ds).length + valD 0 (m % 10 :: ds) = n := by
  constructor
  · apply Nat.lt_of_not_le
    intro hh
    have h1 : 10 ^ 20 ≤ 10 ^ ds.length := Nat.pow_le_pow_right (by decide) hh
    have h2 := Nat.le_mul_of_pos_left (10 ^ ds.length) hm
    have : (10 : Nat) ^ 20 = 100000000000000000000 := by decide
    omega
  · rw [valD_cons, List.length_cons, Nat.pow_succ]
    have e1 : m / 10 * (10 ^ ds.length * 10) = m / 10 * 10 * 10 ^ ds.length := by rw [Nat.mul_comm (10 ^ ds.length) 10, Nat.mul_assoc]
    have e2 : m * 10 ^ ds.length = m / 10 * 10 * 10 ^ ds.length + m % 10 * 10 ^ ds.length := by rw [← Nat.add_mul]; congr 1; omega
    omega
set_option maxHeartbeats 4000000 in
set_option maxRecDepth 100000 in
theorem lexNumbers.calls (n noughts : Int) (w : World) (hg : As.Handle w) (hn0 : 0 ≤ n) (hn1 : n < 18446744073709551616) (hk0 : 0 ≤ noughts) (hk1 : noughts < 256) : Calls Tryd.prog 7 #[.int .u64 n, .int .u8 noughts] w fun e w' => e = .returned (.bool true) ∧ Below w.heap.size w w' := by
  have CA := awake.calls w hg
  obtain ⟨N, rfl⟩ := Int.eq_ofNat_of_zero_le hn0
  go_enter Tryd.func7, Tryd.ntmps7
  go_upto_region 4 with (first
    | (go_at_call 9; refine CA.mono ?_; rintro e w1 ⟨rfl, hb1⟩)
    | go_in)
  clear CA
  go_wp2
  go_loopw [5, 6] (fun v5 v6 wr => ∃ (m : Nat) (ds : List Nat), v5 = .string (digB ds) ∧ v6 = .int .u64 (m : Int) ∧ Aside0 (m * 10 ^ ds.length + valD 0 ds = N) ∧ m ≤ N ∧ ds.length ≤ 20 ∧ (∀ d ∈ ds, d < 10) ∧ wr = w1)
    (fun _ v6 _ => (intOf v6).toNat)
  case atStart => exact ⟨N, [], rfl, rfl, ⟨by simp [valD]⟩, Nat.le_refl _, by decide, by simp, rfl⟩
  case round =>
    obtain ⟨m, ds, rfl, rfl, hv, hmN, hl, hd, rfl⟩ := hrel
    by_cases hm : 0 < m
    · have hmi : (m : Int) > 0 := by omega
      obtain ⟨hl2, hv2⟩ := digits_step (by omega) hm hv.out
      have hv2 := Aside0.mk hv2
      have hd10 : m % 10 < 10 := Nat.mod_lt _ (by decide)
      have hmod : (m : Int) % 10 = ((m % 10 : Nat) : Int) := by omega
      generalize m % 10 = d at *
      have hcons := digB_cons d hd10 ds
      have hE1 : (Utf8.encode (48 + (d : Int))).size = 1 := by
        have := congrArg ByteArray.size hcons
        rw [ByteArray.size_append, digB_size, digB_size, List.length_cons] at this
        omega
      have hD := digB_size ds
      obtain ⟨E, hE⟩ : ∃ E, Utf8.encode (48 + (d : Int)) = E := ⟨_, rfl⟩
      rw [hE] at hcons hE1
      replace hcons := Aside0.mk hcons
      have hu : IntKind.u64.wrap (48 + (d : Int)) = 48 + (d : Int) := by rw [IntKind.wrap_u64]; omega
      have hx : IntKind.i32.wrap (48 + (d : Int)) = 48 + (d : Int) := by rw [IntKind.wrap_i32]; omega
      clear hv
      generalize digB ds = D at hcons hD ⊢
      go_wp2
      go_roundw
      case rel =>
        have hm2 : m / 10 ≤ N := Nat.le_trans (Nat.div_le_self _ _) hmN
        have hdd : ∀ x ∈ d :: ds, x < 10 := by
          intro x hx
          rcases List.mem_cons.mp hx with rfl | hx
          · exact hd10
          · exact hd x hx
        first
          | exact ⟨m / 10, d :: ds, by rw [hcons.out], by rw [Int.natCast_ediv]; rfl, hv2, hm2, by rw [List.length_cons]; omega, hdd, rfl⟩
          | exact ⟨m / 10, d :: ds, by rw [hcons.out], by rw [Int.natCast_ediv]; rfl, hv2, hm2, by rw [List.length_cons]; omega, hdd, trivial⟩
      case measure => simp [intOf]; omega
    · have hmi : ¬ (m : Int) > 0 := by omega
      obtain rfl : m = 0 := by omega
      rw [Nat.zero_mul, Nat.zero_add] at hv
      clear hmN hm
      obtain ⟨q, hq⟩ := Int.eq_ofNat_of_zero_le hk0
      subst hq
      go_wp2
      go_loopw [5, 7] (fun v5 v7 wr2 => ∃ (k : Nat) (ds : List Nat), v5 = .string (digB ds) ∧ v7 = .int .i64 (k : Int) ∧ Aside0 (valD 0 ds = N) ∧ k ≤ q % 5 + 1 ∧ ds.length ≤ 20 + k ∧ k ≤ ds.length ∧ (∀ d ∈ ds, d < 10) ∧ wr2 = wr)
        (fun _ v7 _ => 5 - (intOf v7).toNat)
      case atStart => exact ⟨0, ds, rfl, rfl, hv, by omega, by omega, by omega, hd, rfl⟩
      case round =>
        clear hv hd hl
        obtain ⟨k, ds, rfl, rfl, hv, hk, hl, hkl, hd, rfl⟩ := hrel
        by_cases hkq : k ≤ q % 5
        · have hki : (k : Int) ≤ (q : Int) % 5 := by omega
          have hD := digB_size ds
          have hcons := Aside0.mk (digB_zero ds)
          have hv2 : Aside0 (valD 0 (0 :: ds) = N) := ⟨by rw [valD_cons, Nat.zero_mul, Nat.zero_add]; exact hv.out⟩
          clear hv
          have hdd : ∀ x ∈ 0 :: ds, x < 10 := by
            intro x hx
            rcases List.mem_cons.mp hx with rfl | hx
            · decide
            · exact hd x hx
          generalize digB ds = D at hcons hD ⊢
          go_wp2
          go_roundw
          case rel =>
            first
              | exact ⟨k + 1, 0 :: ds, by rw [hcons.out], by first | rfl | go_num, hv2, by omega, by rw [List.length_cons]; omega, by rw [List.length_cons]; omega, hdd, rfl⟩
              | exact ⟨k + 1, 0 :: ds, by rw [hcons.out], by first | rfl | go_num, hv2, by omega, by rw [List.length_cons]; omega, by rw [List.length_cons]; omega, hdd, trivial⟩
          case measure => simp [intOf]; omega
        · have hki : ¬ (k : Int) ≤ (q : Int) % 5 := by omega
          have hcut := num_cut ds hd (by omega) N (by omega) hv.out
          have hsz : (digB ds).size ≤ 65536 := by rw [digB_size]; omega
          have TC := cut.calls (digB ds) wr hsz
          rw [hcut] at TC
          clear hcut hv hd
          generalize digB ds = D at TC hsz ⊢
          go_upto_region 13 with (first
            | (go_at_call 10; refine TC.mono ?_; rintro e w3 ⟨hb3, A, c, rfl, hc, hC⟩)
            | go_in)
          obtain ⟨ad, rfl, z0, z1, z2, z3⟩ := at_Tok hC 0 (by decide) (by show (0 : Int) < 2; decide)
          have r0 : rdTok [⟨3, D, (N : Int), 0⟩, endTok D] 0 = ⟨3, D, (N : Int), 0⟩ := rfl
          rw [r0] at z0 z1 z2
          have e0 : Int.toNat 0 * 4 = 0 := rfl
          rw [e0] at z0 z1 z2
          replace z0 : w3.cell? ad = some (.int .i64 3) := z0
          replace z1 : w3.cell? ⟨ad.block, ad.off + 1, none⟩ = some (.string D) := z1
          replace z2 : w3.cell? ⟨ad.block, ad.off + 2, none⟩ = some (.int .u64 (N : Int)) := z2
          clear z3 r0 e0 hC TC
          go_wp2
          go_ret
          exact ⟨rfl, hb1.trans (hb3.mono hb1.size)⟩
end Go.Proofs.YtmklkkpeolnjbaaDoor.Lex
