/-
LexCut: a text's tokens, and the first thing that is wrong, are what the document says, sign by sign. Conditions: as each theorem states them.
-/
import Derived.Test.YtmklkkpeolnjbaaDoorMNexs
set_option linter.unusedVariables false
set_option linter.unusedSimpArgs false
namespace Go.Proofs.YtmklkkpeolnjbaaDoor.Lex
open Go.RowKit Go.Proofs.YtmklkkpeolnjbaaDoorW.PrintWords Go.Proofs.YtmklkkpeolnjbaaDoorW.PrintLast Go.Proofs.YtmklkkpeolnjbaaDoorW.PrintMore
open Go.Proofs.YtmklkkpeolnjbaaDoor.Kit Go.ChangeMaps Go.MapKept
open Go.Proofs.YtmklkkpeolnjbaaDoor.PLexCut
theorem next_tok {s : ByteArray} {i j : Nat} {t : Tok} (w : World) (hs : s.size ≤ 1000000) (hi : i < s.size) (h : stepS s i = .tok t j) : Calls Tryd.prog 12 #[.string s, .int .i64 (i : Int)] w fun e w' => Below w.heap.size w w' ∧ e = .returned (.tuple #[.agg #[.int .i64 t.f0, .string t.f1, .int .u64 t.f2, .int .i64 t.f3], .bool true]) :=
  (next.calls s i w hs hi (fun k hk => by rw [h] at hk; cases hk)).mono fun e w' hp => ⟨hp.1, by have := hp.2; rw [h] at this; exact this⟩
theorem next_bad {s : ByteArray} {i : Nat} (w : World) (hs : s.size ≤ 1000000) (hi : i < s.size) (h : stepS s i = .bad) : Calls Tryd.prog 12 #[.string s, .int .i64 (i : Int)] w fun e w' => Below w.heap.size w w' ∧ ∃ (a c d : Int) (b : ByteArray), e = .returned (.tuple #[.agg #[.int .i64 a, .string b, .int .u64 c, .int .i64 d], .bool false]) :=
  (next.calls s i w hs hi (fun k hk => by rw [h] at hk; cases hk)).mono fun e w' hp => ⟨hp.1, by have := hp.2; rw [h] at this; exact this⟩
/-- Where the law stands in a text. -/
structure At (s : ByteArray) (r : List Tok ⊕ Nat) (i k : Nat) : Prop where
  ex : ∃ (m : Nat) (acc : List Tok), s.size - i < m ∧ cutS s m i acc = r ∧ acc.length = k
theorem At.tok {s : ByteArray} {r : List Tok ⊕ Nat} {i k j : Nat} {t : Tok} (h : At s r i k) (hi : i < s.size) (hst : stepS s i = .tok t j) : At s r j (k + 1) ∧ ∀ us, r = .inl us → us[k]? = some t := by
  obtain ⟨m, acc, h1, h2, h3⟩ := h.ex
  obtain ⟨m, rfl⟩ : ∃ q, m = q + 1 := ⟨m - 1, by omega⟩
  rw [cutS, if_pos hi, hst] at h2
  have ht := step_tok hi hst
  refine ⟨⟨m, acc ++ [t], by omega, h2, by rw [List.length_append, h3]; rfl⟩, fun us hr => ?_⟩
  subst hr
  obtain ⟨vs, e, _⟩ := cut_placed m j _ us (by omega) h2
  rw [e, ← h3]
  simp
theorem At.bad {s : ByteArray} {r : List Tok ⊕ Nat} {i k : Nat} (h : At s r i k) (hi : i < s.size) (hst : stepS s i = .bad) : r = .inr i := by
  obtain ⟨m, acc, h1, h2, h3⟩ := h.ex
  obtain ⟨m, rfl⟩ : ∃ q, m = q + 1 := ⟨m - 1, by omega⟩
  rw [cutS, if_pos hi, hst] at h2
  exact h2.symm
theorem At.end {s : ByteArray} {r : List Tok ⊕ Nat} {i k : Nat} (h : At s r i k) (hi : ¬ i < s.size) : ∃ us, r = .inl us ∧ us.length = k + 1 ∧ us[k]? = some (endTok s) := by
  obtain ⟨m, acc, h1, h2, h3⟩ := h.ex
  obtain ⟨m, rfl⟩ : ∃ q, m = q + 1 := ⟨m - 1, by omega⟩
  rw [cutS, if_neg hi] at h2
  exact ⟨_, h2.symm, by simp [h3], by rw [← h3]; simp [endTok]⟩
theorem At.skip {s : ByteArray} {r : List Tok ⊕ Nat} {i k j : Nat} (h : At s r i k) (hsk : ∀ (m : Nat) (acc : List Tok), s.size - i < m → ∃ m', s.size - j < m' ∧ cutS s m i acc = cutS s m' j acc) : At s r j k := by
  obtain ⟨m, acc, h1, h2, h3⟩ := h.ex
  obtain ⟨m', e1, e2⟩ := hsk m acc h1
  exact ⟨m', acc, e1, by rw [← e2]; exact h2, h3⟩
attribute [local go_sem high] eqTok
set_option maxHeartbeats 8000000 in
set_option maxRecDepth 100000 in
theorem lexCut.calls (s : ByteArray) (w : World) (hg : As.Handle w) (hs : s.size ≤ 9223372036854775807) : Calls Tryd.prog 3 #[.string s] w fun e w' => e = .returned (.bool true) ∧ Below w.heap.size w w' := by
  have CA := awake.calls w hg
  go_enter Tryd.func3, Tryd.ntmps3
  go_upto_region 3 with (first
    | (go_at_call 9; refine CA.mono ?_; rintro e w1 ⟨rfl, hb1⟩)
    | go_in)
  clear CA
  by_cases hlen : 4000 < s.size
  · have hli : (s.size : Int) > 4000 := by omega
    go_wp2
    go_ret
    exact ⟨rfl, hb1⟩
  have hli : ¬ (s.size : Int) > 4000 := by omega
  have hs1 : s.size ≤ 1000000 := by omega
  have TC := cut.calls s w1 (by omega)
  have hAt : At s (cutS s (s.size + 1) 0 []) 0 0 := ⟨s.size + 1, [], by omega, rfl, rfl⟩
  have TS := fun wx : World => skip.calls s 0 wx hs1 (Nat.zero_le _)
  cases hr : cutS s (s.size + 1) 0 [] with
  | inr a =>
    rw [hr] at TC hAt
    clear hr
    go_upto_region 7 with (first
      | (go_at_call 10; refine TC.mono ?_; rintro e w2 ⟨hb2, v, rfl, hF⟩)
      | (go_at_call 11; refine (TS w2).mono ?_; rintro e w3 ⟨hb3, j0, rfl, hj0, hjs, hstay, hskip⟩)
      | go_in)
    have hAt := hAt.skip hskip
    have hB := hb1.trans (hb2.mono hb1.size)
    have hB := hB.trans (hb3.mono hB.size)
    have hF := hF.below hb3
    clear hb1 hb2 hb3 TC TS hskip
    go_wp2
    go_loopw [5, 6] (fun v5 v6 wr => ∃ (i k : Nat), v5 = .int .i64 i ∧ v6 = .int .i64 k ∧ i ≤ s.size ∧ k ≤ i ∧ (i < s.size → Stays s i) ∧ At s (.inr a) i k ∧ As.Fault wr v 1 a ∧ Below w.heap.size w wr) (fun v5 _ _ => s.size - (intOf v5).toNat)
    case atStart => exact ⟨j0, 0, rfl, rfl, hjs, Nat.zero_le _, hstay, hAt, hF, hB⟩
    case round =>
      clear hAt hF hB hstay hj0 hjs
      obtain ⟨i, k, rfl, rfl, hi, hki, hstay, hAt, hF, hB⟩ := hrel
      by_cases his : i < s.size
      · have hii : (i : Int) < (s.size : Int) := by omega
        cases hst : stepS s i with
        | on j => exact absurd hst (hstay his j)
        | bad =>
          have ha := hAt.bad his hst
          injection ha with ha
          subst ha
          have TN := next_bad wr hs1 his hst
          have hg2 := hg.below hB
          have TNo := fun wx hh hf => As.number.calls v 1 (a : Int) wx hh hf
          have TPl := fun wx hh hf => As.place.calls v 1 (a : Int) wx hh hf
          clear hst hAt hstay
          go_upto_region 11 with (first
            | (go_at_call 12; refine TN.mono ?_; rintro e w4 ⟨hb4, b0, b2, b3, b1, rfl⟩)
            | go_in)
          have e7 := heap_alloc_new w4 (Obj.cells #[.int .i64 b0, .string b1, .int .u64 b2, .int .i64 b3] 32 (0, 0))
          have hB := hB.trans (hb4.mono hB.size)
          have hF := hF.below hb4
          have hb5 : Below w4.heap.size w4 (w4.alloc (Obj.cells #[.int .i64 b0, .string b1, .int .u64 b2, .int .i64 b3] 32 (0, 0))) := below_alloc (Below.refl _ _) _
          have hB := hB.trans (hb5.mono hB.size)
          have hF := hF.below hb5
          clear hb4 hb5 TN
          generalize w4.alloc (Obj.cells #[.int .i64 b0, .string b1, .int .u64 b2, .int .i64 b3] 32 (0, 0)) = w5 at *
          generalize w4.heap.size = B7 at *
          have hg5 := hg.below hB
          go_wp2_with (first
            | (go_at_call 13; refine (TNo w5 hg5 hF).mono ?_; rintro e w6 ⟨rfl, hb6⟩)
            | (go_at_call 14; refine (TPl w6 (hg5.below hb6) (hF.below hb6)).mono ?_; rintro e w7 ⟨rfl, hb7⟩))
          go_ret
          have hB6 := hB.trans (hb6.mono hB.size)
          exact ⟨rfl, hB6.trans (hb7.mono hB6.size)⟩
        | tok t j =>
          have TN := next_tok wr hs1 his hst
          have ht := step_tok his hst
          obtain ⟨hAt, _⟩ := hAt.tok his hst
          have TS := fun wx : World => skip.calls s j wx hs1 (by omega)
          clear hst hstay
          obtain ⟨t0, T, t2, t3⟩ := t
          simp only at TN ht
          obtain ⟨ht1, ht2, ht3, ht4, ht5⟩ := ht
          subst ht1
          replace ht5 := Aside0.mk ht5
          obtain ⟨p, hF1⟩ := fault_form hF
          subst hF1
          go_upto_region 11 with (first
            | (go_at_call 12; refine TN.mono ?_; rintro e w4 ⟨hb4, rfl⟩)
            | go_in)
          have e7 := heap_alloc_new w4 (Obj.cells #[.int .i64 t0, .string T, .int .u64 t2, .int .i64 (i : Int)] 32 (0, 0))
          have hB := hB.trans (hb4.mono hB.size)
          have hF := hF.below hb4
          have hb5 : Below w4.heap.size w4 (w4.alloc (Obj.cells #[.int .i64 t0, .string T, .int .u64 t2, .int .i64 (i : Int)] 32 (0, 0))) := below_alloc (Below.refl _ _) _
          have hB := hB.trans (hb5.mono hB.size)
          have hF := hF.below hb5
          clear hb4 hb5 TN
          generalize w4.alloc (Obj.cells #[.int .i64 t0, .string T, .int .u64 t2, .int .i64 (i : Int)] 32 (0, 0)) = w5 at *
          generalize w4.heap.size = B7 at *
          have y0 := (blk_cell e7 0).trans rfl
          have y1 := (blk_cell e7 1).trans rfl
          have y2 := (blk_cell e7 2).trans rfl
          have y3 := (blk_cell e7 3).trans rfl
          go_upto_region 13 with go_in
          go_region
          have e7 := blk_drew e7
          have hB := hB.drew
          have hF := hF.below (below_drew (Below.refl _ _))
          clear y0 y1 y2 y3
          generalize w5.drew = w6 at *
          have y1 := (blk_cell e7 1).trans rfl
          have hij : wrap64 ((i : Int) + (T.size : Int)) = (j : Int) := by rw [wrap_in (by omega) (by omega)]; omega
          have hij2 : (i : Int) + (T.size : Int) = (j : Int) := by omega
          go_wp2_with (first
            | (go_at_call 11; refine (TS w6).mono ?_; rintro e w7 ⟨hb7, j2, rfl, hj1, hj2, hstay2, hskip2⟩))
          go_roundw
          case rel => exact ⟨j2, k + 1, by first | rfl | go_num, by first | rfl | go_num, hj2, by omega, hstay2, hAt.skip hskip2, hF.below hb7, hB.trans (hb7.mono hB.size)⟩
          case measure => simp [intOf]; omega
      · obtain ⟨us, h1, _⟩ := hAt.end his
        cases h1
  | inl us =>
    rw [hr] at TC hAt
    clear hr
    go_upto_region 7 with (first
      | (go_at_call 10; refine TC.mono ?_; rintro e w2 ⟨hb2, A, c, rfl, hc, hC⟩)
      | (go_at_call 11; refine (TS w2).mono ?_; rintro e w3 ⟨hb3, j0, rfl, hj0, hjs, hstay, hskip⟩)
      | go_in)
    have hAt := hAt.skip hskip
    have hB := hb1.trans (hb2.mono hb1.size)
    have hB := hB.trans (hb3.mono hB.size)
    have hC := Kd.C_below hC hb3
    have hul := hC.2.1
    clear hb1 hb2 hb3 TC TS hskip hg
    go_wp2
    go_loopw [5, 6] (fun v5 v6 wr => ∃ (i k : Nat), v5 = .int .i64 i ∧ v6 = .int .i64 k ∧ i ≤ s.size ∧ k ≤ i ∧ (i < s.size → Stays s i) ∧ At s (.inl us) i k ∧ Kd.C kTok wr A us.length us ∧ Below w.heap.size w wr) (fun v5 _ _ => s.size - (intOf v5).toNat)
    case atStart => exact ⟨j0, 0, rfl, rfl, hjs, Nat.zero_le _, hstay, hAt, hC, hB⟩
    case round =>
      clear hAt hC hB hstay hj0 hjs
      obtain ⟨i, k, rfl, rfl, hi, hki, hstay, hAt, hC, hB⟩ := hrel
      by_cases his : i < s.size
      · have hii : (i : Int) < (s.size : Int) := by omega
        cases hst : stepS s i with
        | on j => exact absurd hst (hstay his j)
        | bad =>
          have ha := hAt.bad his hst
          cases ha
        | tok t j =>
          have TN := next_tok wr hs1 his hst
          have ht := step_tok his hst
          obtain ⟨hAt, hut⟩ := hAt.tok his hst
          have hut := hut us rfl
          have hkl : k < us.length := (List.getElem?_eq_some_iff.mp hut).1
          have hke : us[k] = t := (List.getElem?_eq_some_iff.mp hut).2
          have TS := fun wx : World => skip.calls s j wx hs1 (by omega)
          clear hst hstay hut
          obtain ⟨t0, T, t2, t3⟩ := t
          simp only at TN ht
          obtain ⟨ht1, ht2, ht3, ht4, ht5⟩ := ht
          subst ht1
          replace ht5 := Aside0.mk ht5
          replace hke := Aside0.mk hke
          have hkli : (k : Int) < (us.length : Int) := by omega
          have hk0 : (0 : Int) ≤ (k : Int) := by omega
          go_upto_region 11 with (first
            | (go_at_call 12; refine TN.mono ?_; rintro e w4 ⟨hb4, rfl⟩)
            | go_in)
          have e7 := heap_alloc_new w4 (Obj.cells #[.int .i64 t0, .string T, .int .u64 t2, .int .i64 (i : Int)] 32 (0, 0))
          have hB := hB.trans (hb4.mono hB.size)
          have hC := Kd.C_below hC hb4
          have hb5 : Below w4.heap.size w4 (w4.alloc (Obj.cells #[.int .i64 t0, .string T, .int .u64 t2, .int .i64 (i : Int)] 32 (0, 0))) := below_alloc (Below.refl _ _) _
          have hB := hB.trans (hb5.mono hB.size)
          have hC := Kd.C_below hC hb5
          clear hb4 hb5 TN
          generalize w4.alloc (Obj.cells #[.int .i64 t0, .string T, .int .u64 t2, .int .i64 (i : Int)] 32 (0, 0)) = w5 at *
          generalize w4.heap.size = B7 at *
          have y0 := (blk_cell e7 0).trans rfl
          have y1 := (blk_cell e7 1).trans rfl
          have y2 := (blk_cell e7 2).trans rfl
          have y3 := (blk_cell e7 3).trans rfl
          have hge : decide ((us.length : Int) ≤ (k : Int)) = false := decide_eq_false (by omega)
          have hge2 : decide ((k : Int) ≥ (us.length : Int)) = false := decide_eq_false (by omega)
          have hge3 : ¬ (us.length : Int) ≤ (k : Int) := by omega
          obtain ⟨ad, eA, z0, z1, z2, z3⟩ := at_Tok hC k (by omega) (by omega)
          rw [rdTok_at us k hkl, Int.toNat_natCast, hke.out] at z0 z1 z2 z3
          simp only at z0 z1 z2 z3
          subst eA
          go_upto_region 13 with go_in
          go_region
          have e7 := blk_drew e7
          have hB := hB.drew
          have hC := Kd.C_drew hC
          clear y0 y1 y2 y3 z0 z1 z2 z3
          generalize w5.drew = w6 at *
          have y1 := (blk_cell e7 1).trans rfl
          have hij : wrap64 ((i : Int) + (T.size : Int)) = (j : Int) := by rw [wrap_in (by omega) (by omega)]; omega
          have hij2 : (i : Int) + (T.size : Int) = (j : Int) := by omega
          go_wp2_with (first
            | (go_at_call 11; refine (TS w6).mono ?_; rintro e w7 ⟨hb7, j2, rfl, hj1, hj2, hstay2, hskip2⟩))
          go_roundw
          case rel => exact ⟨j2, k + 1, by first | rfl | go_num, by first | rfl | go_num, hj2, by omega, hstay2, hAt.skip hskip2, Kd.C_below hC hb7, hB.trans (hb7.mono hB.size)⟩
          case measure => simp [intOf]; omega
      · have hii : ¬ (i : Int) < (s.size : Int) := by omega
        obtain ⟨us', h1, h2, h3⟩ := hAt.end his
        injection h1 with h1
        subst h1
        have hkl : k < us.length := by omega
        have hke : us[k] = endTok s := (List.getElem?_eq_some_iff.mp h3).2
        obtain ⟨ad, eA, z0, z1, z2, z3⟩ := at_Tok hC k (by omega) (by omega)
        rw [rdTok_at us k hkl, Int.toNat_natCast, hke] at z0 z1 z2 z3
        obtain rfl : k = us.length - 1 := by omega
        simp only [endTok] at z0 z1 z2 z3
        subst eA
        have hq0 : (0 : Int) ≤ (us.length : Int) - 1 := by omega
        have hq1 : (us.length : Int) - 1 < (us.length : Int) := by omega
        have hp0 : (us.length : Int) > 0 := by omega
        clear h2 h3 hke hAt hC hkl hki
        go_wp2
        go_ret
        exact ⟨rfl, hB⟩
end Go.Proofs.YtmklkkpeolnjbaaDoor.Lex
