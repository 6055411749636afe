/-
LexPlaces: tokens stand where they say, one behind the other. Conditions: as each theorem states them.
-/
import Derived.Test.YtmklkkpeolnjbaaDoorMAwake
import Derived.RegionTactic
import Derived.ChangeAlike
import Derived.BigRegion
set_option linter.unusedVariables false
set_option linter.unusedSimpArgs false
namespace Go.Proofs.YtmklkkpeolnjbaaDoor.Lex
open Go.RowKit Go.Proofs.YtmklkkpeolnjbaaDoorW.PrintWords Go.Proofs.YtmklkkpeolnjbaaDoorW.PrintLast Go.Proofs.YtmklkkpeolnjbaaDoorW.PrintMore
open Go.Proofs.YtmklkkpeolnjbaaDoor.Kit Go.ChangeMaps Go.MapKept
open Go.Proofs.YtmklkkpeolnjbaaDoor.PLexCut
/-- Tokens that stand one behind the other, from a place on. -/
def Placed (s : ByteArray) : List Tok → Nat → Prop
  | [], _ => True
  | t :: r, a => ∃ p : Nat, t.f3 = p ∧ a ≤ p ∧ p + t.f1.size ≤ s.size ∧ s.extract p (p + t.f1.size) = t.f1 ∧ Placed s r (p + t.f1.size)
theorem Placed.le {s : ByteArray} {a b : Nat} (hab : a ≤ b) : ∀ {ts : List Tok}, Placed s ts b → Placed s ts a
  | [], _ => trivial
  | t :: r, h => by
    obtain ⟨p, h1, h2, h3⟩ := h
    exact ⟨p, h1, by omega, h3⟩
theorem empty_b (b : ByteArray) (h : b.size = 0) : b = ⟨#[]⟩ := by
  cases b with
  | mk d =>
    congr 1
    exact Array.size_eq_zero_iff.mp h
theorem size_ext (s : ByteArray) (i j : Nat) (hij : i ≤ j) (hj : j ≤ s.size) : i + (s.extract i j).size = j := by
  rw [ByteArray.size_extract]; omega
theorem sign_ext (s : ByteArray) (i : Nat) (hi : i < s.size) : s.extract i (i + (signS s i).size) = signS s i := by
  unfold signS
  split
  · rename_i h
    rw [size_ext s i (i + 2) (by omega) (by omega)]
  · split
    · rw [size_ext s i (i + 1) (by omega) (by omega)]
    · exact ByteArray.ext (by simp [ByteArray.size])
theorem step_on {s : ByteArray} {i j : Nat} (hi : i < s.size) (h : stepS s i = .on j) : i < j ∧ j ≤ s.size := by
  unfold stepS at h
  split at h
  · injection h with h; omega
  · split at h
    · injection h with h
      rename_i h35
      have := runS_lt (p := isLine) hi (by rw [h35]; rfl)
      omega
    · split at h
      · cases h
      · split at h
        · split at h <;> cases h
        · split at h <;> cases h
theorem step_tok {s : ByteArray} {i j : Nat} {t : Tok} (hi : i < s.size) (h : stepS s i = .tok t j) : t.f3 = (i : Int) ∧ i + t.f1.size = j ∧ i < j ∧ j ≤ s.size ∧ s.extract i (i + t.f1.size) = t.f1 := by
  unfold stepS at h
  split at h
  · cases h
  · split at h
    · cases h
    · split at h
      · rename_i hl
        injection h with h1 h2
        subst h1 h2
        have := runS_lt (p := isWord) hi (by unfold isWord; rw [hl]; rfl)
        have e := size_ext s i (runS isWord s i) (by omega) (by omega)
        exact ⟨rfl, e, by omega, by omega, by show s.extract i (i + (s.extract i _).size) = _; rw [e]⟩
      · split at h
        · rename_i hl
          split at h
          · cases h
          · injection h with h1 h2
            subst h1 h2
            have := runS_lt (p := isDigit) hi hl
            have e := size_ext s i (runS isDigit s i) (by omega) (by omega)
            exact ⟨rfl, e, by omega, by omega, by show s.extract i (i + (s.extract i _).size) = _; rw [e]⟩
        · split at h
          · cases h
          · injection h with h1 h2
            subst h1 h2
            have := sign_fit s i hi
            exact ⟨rfl, rfl, by omega, by omega, sign_ext s i hi⟩
/-- The last token. -/
def endTok (s : ByteArray) : Tok := ⟨0, ⟨#[]⟩, 0, s.size⟩
theorem cut_placed {s : ByteArray} : ∀ (m i : Nat) (ts us : List Tok), i ≤ s.size → cutS s m i ts = .inl us → ∃ vs, us = ts ++ vs ++ [endTok s] ∧ Placed s (vs ++ [endTok s]) i
  | 0, i, ts, us, hi, h => by cases h
  | m + 1, i, ts, us, hi, h => by
    rw [cutS] at h
    split at h
    · rename_i his
      split at h
      · rename_i j hj
        have := step_on his hj
        obtain ⟨vs, h1, h2⟩ := cut_placed m j ts us (by omega) h
        exact ⟨vs, h1, h2.le (by omega)⟩
      · rename_i t j hj
        obtain ⟨a1, a2, a3, a4, a5⟩ := step_tok his hj
        obtain ⟨vs, h1, h2⟩ := cut_placed m j (ts ++ [t]) us (by omega) h
        exact ⟨t :: vs, by rw [h1]; simp, ⟨i, a1, Nat.le_refl _, by omega, a5, by rw [a2]; exact h2⟩⟩
      · cases h
    · injection h with h
      refine ⟨[], by rw [← h]; simp [endTok], ⟨s.size, rfl, hi, Nat.le_refl _, ?_, trivial⟩⟩
      exact empty_b _ (by rw [ByteArray.size_extract]; show min (s.size + 0) s.size - s.size = 0; omega)
theorem rdTok_at (xs : List Tok) (k : Nat) (h : k < xs.length) : rdTok xs (k : Int) = xs[k] := by
  unfold rdTok
  simp [h]
theorem fault_form {w : World} {v : Value} {n a : Int} (h : As.Fault w v n a) : ∃ p, v = .iface 66 (.pointer (some ⟨p, 0, none⟩)) := by
  obtain ⟨p, e, _⟩ := h.form
  exact ⟨p, e⟩
set_option maxHeartbeats 4000000 in
set_option maxRecDepth 100000 in
theorem lexPlaces.calls (s : ByteArray) (w : World) (hg : As.Handle w) (hs : s.size ≤ 9223372036854775807) : Calls Tryd.prog 8 #[.string s] w fun e w' => e = .returned (.bool true) ∧ Below w.heap.size w w' := by
  have CA := awake.calls w hg
  go_enter Tryd.func8, Tryd.ntmps8
  go_upto_region 3 with (first
    | (go_at_call 9; refine CA.mono ?_; rintro e w1 ⟨rfl, hb1⟩)
    | go_in)
  by_cases hl : 65536 < s.size
  · have TC := cut_long s w1 hl hs
    go_wp2_with (first
      | (go_at_call 10; refine TC.mono ?_; rintro e w2 ⟨hb2, v, rfl, hF⟩; obtain ⟨p, rfl⟩ := fault_form hF))
    go_ret
    exact ⟨rfl, hb1.trans (hb2.mono hb1.size)⟩
  have TC := cut.calls s w1 (by omega)
  cases hr : cutS s (s.size + 1) 0 [] with
  | inr a =>
    rw [hr] at TC
    replace hr := Aside0.mk hr
    go_wp2_with (first
      | (go_at_call 10; refine TC.mono ?_; rintro e w2 ⟨hb2, v, rfl, hF⟩; obtain ⟨p, rfl⟩ := fault_form hF))
    go_ret
    exact ⟨rfl, hb1.trans (hb2.mono hb1.size)⟩
  | inl us =>
    rw [hr] at TC
    obtain ⟨vs, hus, hP⟩ := cut_placed _ _ _ _ (Nat.zero_le _) hr
    rw [List.nil_append] at hus
    rw [← hus] at hP
    have hpos : 0 < us.length := by rw [hus]; simp
    have hlast : us[us.length - 1]? = some (endTok s) := by rw [hus]; simp
    replace hus := Aside0.mk hus
    replace hr := Aside0.mk hr
    replace hlast := Aside0.mk hlast
    replace hP := Aside0.mk hP
    have hsz : s.size ≤ 65536 := by omega
    go_upto_region 7 with (first
      | (go_at_call 10; refine TC.mono ?_; rintro e w2 ⟨hb2, A, c, rfl, hc, hC⟩)
      | go_in)
    have hB2 := hb1.trans (hb2.mono hb1.size)
    have hul := hC.2.1
    clear TC CA
    go_wp2
    go_loopw [5, 22] (fun v5 v22 wr => ∃ (k a : Nat), v22 = .int .i64 k ∧ v5 = .int .i64 a ∧ k ≤ us.length ∧ a ≤ s.size ∧ Aside0 (Placed s (us.drop k) a) ∧ Kd.C kTok wr A us.length us ∧ Below w.heap.size w wr)
      (fun _ v22 _ => us.length - (intOf v22).toNat)
    case atStart => exact ⟨0, 0, rfl, rfl, by omega, by omega, ⟨by simpa using hP.out⟩, hC, hB2⟩
    case round =>
      clear hC hB2 hb2 hb1 hg
      obtain ⟨k, a, rfl, rfl, hk, ha, hPk, hC, hB⟩ := hrel
      by_cases hkl : k < us.length
      · have hki : (k : Int) < (us.length : Int) := by omega
        obtain ⟨ad, eA, y0, y1, y2, y3⟩ := at_Tok hC k (by omega) (by omega)
        rw [rdTok_at us k hkl, Int.toNat_natCast] at y0 y1 y2 y3
        have hd : us.drop k = us[k] :: us.drop (k + 1) := List.drop_eq_getElem_cons hkl
        have hPk := hPk.out
        rw [hd] at hPk
        generalize us[k] = t at y0 y1 y2 y3 hPk
        obtain ⟨f0, T, f2, f3⟩ := t
        obtain ⟨p, hp1, hp2, hp3, hp4, hPk⟩ := hPk
        simp only at y0 y1 y2 y3 hp1 hp3 hp4 hPk
        subst hp1
        replace hPk := Aside0.mk hPk
        replace hd := Aside0.mk hd
        subst eA
        go_upto_region 10 with go_in
        have e7 := heap_alloc_new wr (Obj.cells #[.int .i64 f0, .string T, .int .u64 f2, .int .i64 (p : Int)] 32 (0, 0))
        have hb4 : Below wr.heap.size wr (wr.alloc (Obj.cells #[.int .i64 f0, .string T, .int .u64 f2, .int .i64 (p : Int)] 32 (0, 0))) := below_alloc (Below.refl _ _) _
        have hC := Kd.C_below hC hb4
        have hB := hB.trans (hb4.mono hB.size)
        clear y0 y1 y2 y3 hb4
        generalize wr.alloc (Obj.cells #[.int .i64 f0, .string T, .int .u64 f2, .int .i64 (p : Int)] 32 (0, 0)) = w4 at *
        generalize wr.heap.size = B7 at *
        have y1 := (blk_cell e7 1).trans rfl
        have y3 := (blk_cell e7 3).trans rfl
        have n1 : ¬ (p : Int) < (a : Int) := by omega
        have n2 : wrap64 ((p : Int) + (T.size : Int)) = (p : Int) + (T.size : Int) := wrap_in (by omega) (by omega)
        have n3 : ¬ (p : Int) + (T.size : Int) > (s.size : Int) := by omega
        have n4 : ((p : Int) + (T.size : Int)).toNat = p + T.size := by omega
        have n5 : (0 : Int) ≤ (p : Int) := by omega
        have n6 : (p : Int) ≤ (p : Int) + (T.size : Int) := by omega
        have n7 : (p : Int) + (T.size : Int) ≤ (s.size : Int) := by omega
        go_region
        all_goals go_wp2
        go_roundw
        case rel => exact ⟨k + 1, p + T.size, by first | rfl | go_num, by first | rfl | go_num, by omega, by omega, hPk, hC, hB.drew⟩
        case measure => simp [intOf]; omega
      · have hki : ¬ (k : Int) < (us.length : Int) := by omega
        obtain ⟨ad, eA, y0, y1, y2, y3⟩ := at_Tok hC ((us.length : Int) - 1) (by omega) (by omega)
        have hlast := hlast.out
        have hl1 : us.length - 1 < us.length := by omega
        rw [List.getElem?_eq_getElem hl1] at hlast
        have hrd : rdTok us ((us.length : Int) - 1) = endTok s := by
          rw [show ((us.length : Int) - 1) = ((us.length - 1 : Nat) : Int) by omega, rdTok_at us (us.length - 1) hl1]
          exact Option.some.inj hlast
        rw [hrd] at y3
        rw [show ((us.length : Int) - 1).toNat = us.length - 1 by omega] at y3
        replace y3 : wr.cell? ⟨(ad.add ((us.length - 1) * 4)).block, (ad.add ((us.length - 1) * 4)).off + 3, none⟩ = some (.int .i64 (s.size : Int)) := y3
        subst eA
        have hq0 : (0 : Int) ≤ (us.length : Int) - 1 := by omega
        have hq1 : (us.length : Int) - 1 < (us.length : Int) := by omega
        have hp0 : (us.length : Int) > 0 := by omega
        clear hlast y0 y1 y2 hC hPk hrd
        go_wp2
        go_ret
        exact ⟨rfl, hB⟩
end Go.Proofs.YtmklkkpeolnjbaaDoor.Lex
