/-
The walks of Want and Small. Conditions: as each theorem states them.
-/
import Derived.Test.YtpibifgllbfgmaaMDeD
set_option linter.unusedSimpArgs false
set_option linter.unusedVariables false
namespace Go.Proofs.Ytpibifgllbfgmaa.Pure
open Go.RowKit Go.Proofs.YtpibifgllbfgmaaW.PrintWords Go.Proofs.YtpibifgllbfgmaaW.PrintLast Go.Proofs.YtpibifgllbfgmaaW.PrintMore Go.Proofs.Ytpibifgllbfgmaa.Kit
open Go.Proofs.Ytpibifgllbfgmaa.PDeadOf
open Go.ChangeMaps Go.MapKept
attribute [local go_sem] max2_int min2_int max_two min_two max_three min_three max_four min_four   -- for this text's walks alone
set_option maxHeartbeats 4000000 in
set_option maxRecDepth 100000 in
theorem want.calls (l : List S31) (A : Option Addr) (c : Nat) (w : World) (hC : Kd.C k31 w A l.length l) (hc : l.length ≤ c) (hl : l.length ≤ 1000000) :
    Calls Try.prog 11 #[.slice A l.length c] w fun e w' => ∃ v, e = .returned v ∧ Kd.R k31 31 w' w.heap.size (fun _ => True) v (ofS l) ∧ Below w.heap.size w w' := by
  obtain ⟨r, hr⟩ : ∃ r, r = ofS l := ⟨_, rfl⟩
  rw [← hr]
  rw [ofS] at hr
  replace hr := Aside0.mk hr
  go_enter Try.func11, Try.ntmps11
  go_upto_region 2 with (first
    | (at_builtin; go_loud (refine copy31 w.heap.size rfl (.tmp 5) rfl l A c rfl rfl hC (Below.refl _ _) (Nat.le_refl _) hl ?_; intro v1 w1 hR hB))
    | go_in)
  go_loopw [3] (fun v3 wr => ∃ (q : List S31) (f : Nat), Kd.R k31 31 wr w.heap.size (fun _ => True) v3 q ∧ q.length ≤ 1000000 ∧ q.length ≤ f ∧ r = (if goodS q then ofL f q else q) ∧ Below w.heap.size w wr)
    (fun v3 _ => lenV v3)
  case atStart => exact ⟨l, l.length, hR, hl, Nat.le_refl _, hr.out, hB⟩
  case round =>
    clear hR hB hr
    obtain ⟨q, f, hR, hql, hqf, hr, hB⟩ := hrel
    obtain ⟨Aq, cq, rfl, hcq, hCq⟩ := Kd.R_reads hR
    cases hg : decide (goodS q) with
    | false =>
      rw [if_neg (of_decide_eq_false hg)] at hr
      obtain ⟨kg, hkg⟩ := good_some hg (by omega)
      have TG := code_Good.calls kg Aq cq q false wr hCq hcq hkg
      replace hr := Aside0.mk hr
      go_wp2_with (first
        | (go_at_call 12; refine TG.mono ?_; rintro e w2 ⟨rfl, hb2⟩))
      go_ret
      exact ⟨_, rfl, by rw [hr.out]; exact Kd.R_below hR hb2, hB.trans (hb2.mono hB.size)⟩
    | true =>
      have hgq := of_decide_eq_true hg
      rw [if_pos hgq] at hr
      obtain ⟨kg, hkg⟩ := good_some hg (by omega)
      have TG := code_Good.calls kg Aq cq q true wr hCq hcq hkg
      have hq1 := hgq.1
      obtain ⟨f, rfl⟩ : ∃ f', f = f' + 1 := ⟨f - 1, by omega⟩
      rw [ofL] at hr
      have hol := oneS_len q
      obtain ⟨nq, hnq⟩ : ∃ nq, nq = oneS q := ⟨_, rfl⟩
      have TO := fun (wx : World) (h : Kd.C k31 wx Aq q.length q) => once.calls q Aq cq wx h hcq hgq
      rw [← hnq] at hol hr TO
      replace hnq := Aside0.mk hnq
      replace hgq := Aside0.mk hgq
      replace hr := Aside0.mk hr
      go_upto_region 4 with (first
        | (go_at_call 12; refine TG.mono ?_; rintro e w2 ⟨rfl, hb2⟩; have TO2 := TO w2 (Kd.C_below hCq hb2))
        | (go_at_call 13; refine TO2.mono ?_; rintro e w3 ⟨v3, rfl, hR4, hb3⟩)
        | go_in)
      obtain ⟨A4, c4, rfl, hc4, hC4⟩ := Kd.R_reads hR4
      have hws : w.heap.size ≤ w2.heap.size := Nat.le_trans hB.size hb2.size
      have hb23 := hb2.trans (hb3.mono hb2.size)
      have hR := Kd.R_below hR hb23
      have hB := hB.trans (hb23.mono hB.size)
      have hR4 := Kd.R_lower hR4 hws
      clear TG hkg hb2 hb3 hb23 hCq TO TO2
      by_cases hle : nq.length = q.length
      · have hlei : (nq.length : Int) ≥ (q.length : Int) := by omega
        have hrq : r = q := by rw [hr.out, if_pos (.inl hle)]
        replace hrq := Aside0.mk hrq
        clear hle
        go_wp2
        go_ret
        exact ⟨_, rfl, by rw [hrq.out]; exact hR, hB⟩
      · have hlei : ¬ (nq.length : Int) ≥ (q.length : Int) := by omega
        have hlt : nq.length < q.length := by omega
        cases hgn : decide (goodS nq) with
        | false =>
          have hrq : r = q := by rw [hr.out, if_pos (.inr (of_decide_eq_false hgn))]
          obtain ⟨kg2, hkg2⟩ := good_some hgn (by omega)
          have TG := code_Good.calls kg2 A4 c4 nq false w3 hC4 hc4 hkg2
          replace hrq := Aside0.mk hrq
          clear hle
          go_wp2_with (first
            | (go_at_call 12; refine TG.mono ?_; rintro e w5 ⟨rfl, hb5⟩))
          go_ret
          exact ⟨_, rfl, by rw [hrq.out]; exact Kd.R_below hR hb5, hB.trans (hb5.mono hB.size)⟩
        | true =>
          have hgs := of_decide_eq_true hgn
          have hrq : r = ofL f nq := by rw [hr.out, if_neg (fun h => h.elim hle (fun h => h hgs))]
          obtain ⟨kg2, hkg2⟩ := good_some hgn (by omega)
          have TG := code_Good.calls kg2 A4 c4 nq true w3 hC4 hc4 hkg2
          replace hrq := Aside0.mk hrq
          replace hgs := Aside0.mk hgs
          clear hle
          go_wp2_with (first
            | (go_at_call 12; refine TG.mono ?_; rintro e w5 ⟨rfl, hb5⟩))
          go_roundw
          case rel => exact ⟨nq, f, Kd.R_below hR4 hb5, by omega, by omega, by rw [if_pos hgs.out]; exact hrq.out, hB.trans (hb5.mono hB.size)⟩
          case measure => simp [lenV]; omega
theorem rest_eq (n b : Int) (hb : 0 < b) (hb2 : b ≤ 4611686018427387904) : Int.tmod (wrap64 (Int.tmod n b + b)) b = n % b := by
  have h1 : -b < Int.tmod n b := by
    have := Int.lt_tmod_of_pos n hb; omega
  have h2 : Int.tmod n b < b := Int.tmod_lt_of_pos n hb
  rw [wrap_in (by omega) (by omega), Int.tmod_eq_emod_of_nonneg (by omega), Int.add_emod_right]
  rw [Int.tmod_eq_emod]
  split
  · simp
  · have e : (b.natAbs : Int) = b := Int.natAbs_of_nonneg (by omega)
    rw [e, show n % b - b = n % b + b * (-1) by omega, Int.add_mul_emod_self_left, Int.emod_emod]
set_option maxHeartbeats 400000 in
theorem rest.calls (n b : Int) (hb : 0 < b) (hb2 : b ≤ 4611686018427387904) (w : World) :
    Calls Try.prog 16 #[.int .i64 n, .int .i64 b] w fun e w' => e = .returned (.int .i64 (n % b)) ∧ Below w.heap.size w w' := by
  have hb0 : (b == 0) = false := by simp; omega
  have hr := rest_eq n b hb hb2
  replace hr := Aside0.mk hr
  go_enter Try.func16, Try.ntmps16
  go_wp2
  rw [hr.out]
  go_ret
  exact ⟨rfl, Below.refl _ _⟩

/-- A code of few values, of any (n: how many there are). -/
def smallX (n : Int) (x : S31) : S31 :=
  ⟨x.f0 % 14, x.f1 % 10, x.f2 % 8, if x.f6 % 3 = 0 ∧ (x.f0 % 14 = 4 ∨ x.f0 % 14 = 5) then -1 else x.f3 % 8, x.f4 % 8, x.f5 % 8, x.f6 % 8, x.f7 % (n + 1)⟩
def haltX : S31 := ⟨13, 0, 0, 0, 0, 0, 0, 0⟩
/-- Codes of few values: up to 30, and Halt. -/
def smallS (l : List S31) : List S31 := (l.take 30).map (smallX (l.take 30).length) ++ [haltX]
def sm.T8 : Bool × List (List Nat × List Nat) := (true, [([], []), ([0], [0]), ([1], [1]), ([], []), ([3], [3]), ([4, 2], [4]), ([], []), ([6], [6]), ([7, 5], [7]), ([], []), ([9], [9]), ([10, 8], [10]), ([0, 1, 2, 3, 4, 6, 7, 9, 10], []), ([12, 2, 11, 0, 1, 2, 3, 4, 6, 7, 9, 10], [2, 12]), ([0, 1, 2, 3, 4, 5, 6, 7, 9, 10, 12, 13], []), ([14, 5, 13, 0, 1, 2, 3, 4, 5, 6, 7, 9, 10, 12, 13], [5, 14]), ([0, 1, 2, 3, 4, 5, 6, 7, 8, 9, 10, 12, 13, 14, 15], []), ([16, 8, 15, 0, 1, 2, 3, 4, 5, 6, 7, 8, 9, 10, 12, 13, 14, 15], [8, 16]), ([0, 1, 2, 3, 4, 5, 6, 7, 8, 9, 10, 11, 12, 13, 14, 15, 16, 17], []), ([18, 11, 17, 0, 1, 2, 3, 4, 5, 6, 7, 8, 9, 10, 11, 12, 13, 14, 15, 16, 17], [11, 18])])
def sm.B8 : List Nat := [0, 1, 3, 0, 8, 31, 0, 64, 255, 0, 512, 2047, 1759, 8191, 16383, 32767, 65535, 131071, 262143, 524287]
theorem sm.tab8 : rtab .any (opsOf Try.f8 8) = sm.T8 := by kernel_rfl
theorem sm.bits8 : waitsOk sm.T8.2 sm.B8 = true := by kernel_rfl
def sm.T11 : Bool × List (List Nat × List Nat) := (true, [([], []), ([0], [0]), ([1], [1]), ([], []), ([3], [3]), ([], []), ([5], [5]), ([4, 6], [4, 6]), ([0, 1, 2, 3, 4], []), ([8, 2, 7, 0, 1, 2, 3, 4], [2, 8]), ([0, 1, 2, 3, 4, 5, 6, 7, 8, 9], []), ([10, 7, 9, 0, 1, 2, 3, 4, 5, 6, 7, 8, 9], [7, 10])])
def sm.B11 : List Nat := [0, 1, 3, 0, 8, 0, 32, 120, 31, 511, 1023, 2047]
theorem sm.tab11 : rtab .any (opsOf Try.f8 11) = sm.T11 := by kernel_rfl
theorem sm.bits11 : waitsOk sm.T11.2 sm.B11 = true := by kernel_rfl
set_option maxHeartbeats 4000000 in
set_option maxRecDepth 100000 in
theorem small.calls (l : List S31) (A : Option Addr) (c : Nat) (w : World) (hC : Kd.C k31 w A l.length l) (hc : l.length ≤ c) (hl : l.length ≤ 9223372036854775806) (hu : ∀ x ∈ l, 0 ≤ x.f6 ∧ x.f6 ≤ 18446744073709551615) :
    Calls Try.prog 8 #[.slice A l.length c] w fun e w' => ∃ v, e = .returned v ∧ Kd.R k31 31 w' w.heap.size (fun _ => True) v (smallS l) ∧ Below w.heap.size w w' := by
  obtain ⟨T, hT⟩ : ∃ T, T = l.take 30 := ⟨_, rfl⟩
  have hT30 : T.length ≤ 30 := by rw [hT, List.length_take]; omega
  have hTl : T.length ≤ l.length := by rw [hT, List.length_take]; omega
  have hmn : (if (30 : Int) < (l.length : Int) then 30 else (l.length : Int)) = (T.length : Int) := by rw [hT, List.length_take]; split <;> omega
  have hTi0 : (0 : Int) ≤ (T.length : Int) := by omega
  have hTi1 : (T.length : Int) ≤ (l.length : Int) := by omega
  obtain ⟨i020, hi020, _, hsz20, _⟩ := info_parts info31
  have hcut := cut_to (P := Try.prog) 22 31 .i64 Try.underlying22 hi020 A l.length c (T.length : Int) hTi0 hTi1 hc
  rw [Int.toNat_natCast] at hcut
  have hCT : k31.C w A T.length T := by
    have := Kd.C_take (m := T.length) hC (by omega)
    have e : l.take T.length = T := by
      rw [hT, List.length_take]
      by_cases h : l.length ≤ 30
      · rw [Nat.min_eq_right h, List.take_of_length_le (Nat.le_refl _), List.take_of_length_le h]
      · rw [Nat.min_eq_left (by omega)]
    rw [e] at this
    exact this
  have huT : ∀ x ∈ T, 0 ≤ x.f6 ∧ x.f6 ≤ 18446744073709551615 := fun x hx => hu x (by rw [hT] at hx; exact List.mem_of_mem_take hx)
  have hs : smallS l = T.map (smallX T.length) ++ [haltX] := by rw [hT]; rfl
  have hlT : T.length ≤ c := by omega
  have hbp : (0 : Int) < (T.length : Int) + 1 := by omega
  have hbq : (T.length : Int) + 1 ≤ 4611686018427387904 := by omega
  rw [hs]
  clear hs hu hsz20 hi020
  replace hT := Aside0.mk hT
  replace huT := Aside0.mk huT
  go_enter Try.func8, Try.ntmps8
  go_wp2
  obtain ⟨FX, hFX⟩ : ∃ F : S31 → S31, F = smallX (T.length : Int) := ⟨_, rfl⟩
  replace hFX := Aside0.mk hFX
  replace hcut := Aside0.mk hcut
  replace hmn := Aside0.mk hmn
  go_loopw [3, 14] (fun v3 v14 wr => ∃ k : Nat, v14 = .int .i64 k ∧ k ≤ T.length ∧ Kd.R k31 31 wr w.heap.size (fun _ => True) v3 ((T.take k).map FX) ∧ Below w.heap.size w wr)
    (fun _ v14 _ => T.length - (intOf v14).toNat)
  case atStart => exact ⟨0, rfl, by omega, Kd.R_nil _ _ _ _ _, Below.refl _ _⟩
  case round =>
    obtain ⟨k, rfl, hk, hR, hB⟩ := hrel
    by_cases hkl : k < T.length
    · obtain ⟨ad, eA, y0, y1, y2, y3, y4, y5, y6, y7⟩ := at_T31 (Kd.C_below hCT hB) k (by omega) (by omega)
      subst eA
      rw [rdT_at T k hkl, Int.toNat_natCast] at y0 y1 y2 y3 y4 y5 y6 y7
      have htk : (T.take (k + 1)).map FX = (T.take k).map FX ++ [FX T[k]] := by rw [List.take_add_one, List.getElem?_eq_getElem hkl, List.map_append]; rfl
      have hacc : ((T.take k).map FX).length ≤ 30 := by rw [List.length_map, List.length_take]; omega
      have hux := huT.out T[k] (List.getElem_mem hkl)
      obtain ⟨x, hx⟩ : ∃ x, x = T[k] := ⟨_, rfl⟩
      rw [← hx] at y0 y1 y2 y3 y4 y5 y6 y7 htk hux
      have hki : (k : Int) < (T.length : Int) := by omega
      replace htk := Aside0.mk htk
      replace hacc := Aside0.mk hacc
      replace hx := Aside0.mk hx
      replace hux := Aside0.mk hux
      go_upto_region 6 with go_in
      have e6 := heap_alloc_new wr (Obj.cells #[.int .i64 x.f0, .int .i64 x.f1, .int .i64 x.f2, .int .i64 x.f3, .int .i64 x.f4, .int .i64 x.f5, .int .u64 x.f6, .int .i64 x.f7] 31 (0, 0))
      have hbr : Below wr.heap.size wr (wr.alloc (Obj.cells #[.int .i64 x.f0, .int .i64 x.f1, .int .i64 x.f2, .int .i64 x.f3, .int .i64 x.f4, .int .i64 x.f5, .int .u64 x.f6, .int .i64 x.f7] 31 (0, 0))) := below_alloc (Below.refl _ _) _
      generalize wr.alloc (Obj.cells #[.int .i64 x.f0, .int .i64 x.f1, .int .i64 x.f2, .int .i64 x.f3, .int .i64 x.f4, .int .i64 x.f5, .int .u64 x.f6, .int .i64 x.f7] 31 (0, 0)) = w3 at e6 hbr ⊢
      clear y0 y1 y2 y3 y4 y5 y6 y7
      obtain ⟨B6, hB6⟩ : ∃ B, B = wr.heap.size := ⟨_, rfl⟩
      rw [← hB6] at e6 ⊢
      replace hB6 := Aside0.mk hB6
      obtain ⟨a0, h0_⟩ : ∃ a, a = x.f0 % 14 := ⟨_, rfl⟩
      obtain ⟨a1, h1_⟩ : ∃ a, a = x.f1 % 10 := ⟨_, rfl⟩
      obtain ⟨a2, h2_⟩ : ∃ a, a = x.f2 % 8 := ⟨_, rfl⟩
      obtain ⟨a3, h3_⟩ : ∃ a, a = x.f3 % 8 := ⟨_, rfl⟩
      obtain ⟨a4, h4_⟩ : ∃ a, a = x.f4 % 8 := ⟨_, rfl⟩
      obtain ⟨a5, h5_⟩ : ∃ a, a = x.f5 % 8 := ⟨_, rfl⟩
      obtain ⟨a6, h6_⟩ : ∃ a, a = x.f6 % 8 := ⟨_, rfl⟩
      obtain ⟨a7, h7_⟩ : ∃ a, a = x.f7 % ((T.length : Int) + 1) := ⟨_, rfl⟩
      obtain ⟨m3, hm_⟩ : ∃ a, a = x.f6 % 3 := ⟨_, rfl⟩
      have T0 := rest.calls x.f0 14 (by omega) (by omega)
      have T1 := rest.calls x.f1 10 (by omega) (by omega)
      have T2 := rest.calls x.f2 8 (by omega) (by omega)
      have T3 := rest.calls x.f3 8 (by omega) (by omega)
      have T4 := rest.calls x.f4 8 (by omega) (by omega)
      have T5 := rest.calls x.f5 8 (by omega) (by omega)
      have T7 := rest.calls x.f7 ((T.length : Int) + 1) hbp hbq
      have et3 : Int.tmod x.f6 3 = x.f6 % 3 := Int.tmod_eq_emod_of_nonneg hux.out.1
      have et8 : Int.tmod x.f6 8 = x.f6 % 8 := Int.tmod_eq_emod_of_nonneg hux.out.1
      rw [← h0_] at T0
      rw [← h1_] at T1
      rw [← h2_] at T2
      rw [← h3_] at T3
      rw [← h4_] at T4
      rw [← h5_] at T5
      rw [← h7_] at T7
      rw [← hm_] at et3
      rw [← h6_] at et8
      have hA : Aside0 (a0 = x.f0 % 14 ∧ a1 = x.f1 % 10 ∧ a2 = x.f2 % 8 ∧ a3 = x.f3 % 8 ∧ a4 = x.f4 % 8 ∧ a5 = x.f5 % 8 ∧ a6 = x.f6 % 8 ∧ a7 = x.f7 % ((T.length : Int) + 1) ∧ m3 = x.f6 % 3) := ⟨h0_, h1_, h2_, h3_, h4_, h5_, h6_, h7_, hm_⟩
      clear h0_ h1_ h2_ h3_ h4_ h5_ h6_ h7_ hm_ hbp hbq
      have x60 := blk_cell e6 0
      have f60 := blk_frozen e6 0
      go_upto_region 7 with (first
        | (go_at_call 16; refine (T0 _).mono ?_; rintro e w4 ⟨rfl, hb4⟩; have e6 := blk_below e6 hb4; have hbr := hbr.trans (hb4.mono hbr.size); have x60 := blk_cell e6 0; have f60 := blk_frozen e6 0)
        | go_in)
      have e6 := blk_put e6 0 (.int .i64 a0) (cs' := #[.int .i64 a0, .int .i64 x.f1, .int .i64 x.f2, .int .i64 x.f3, .int .i64 x.f4, .int .i64 x.f5, .int .u64 x.f6, .int .i64 x.f7]) rfl
      have hbr := below_set (j := 0) (v := .int .i64 a0) hbr (Nat.le_of_eq hB6.out.symm)
      generalize World.setCell w4 ⟨B6, 0, none⟩ (.int .i64 a0) = w5 at e6 hbr ⊢
      clear x60 f60
      have x61 := blk_cell e6 1
      have f61 := blk_frozen e6 1
      go_upto_region 8 with (first
        | (go_at_call 16; refine (T1 _).mono ?_; rintro e w6 ⟨rfl, hb6⟩; have e6 := blk_below e6 hb6; have hbr := hbr.trans (hb6.mono hbr.size); have x61 := blk_cell e6 1; have f61 := blk_frozen e6 1)
        | go_in)
      have e6 := blk_put e6 1 (.int .i64 a1) (cs' := #[.int .i64 a0, .int .i64 a1, .int .i64 x.f2, .int .i64 x.f3, .int .i64 x.f4, .int .i64 x.f5, .int .u64 x.f6, .int .i64 x.f7]) rfl
      have hbr := below_set (j := 1) (v := .int .i64 a1) hbr (Nat.le_of_eq hB6.out.symm)
      generalize World.setCell w6 ⟨B6, 1, none⟩ (.int .i64 a1) = wq at e6 hbr ⊢
      clear x61 f61
      have lB : B6 < wq.heap.size := blk_lt e6
      have x60 := blk_cell e6 0
      have x61 := blk_cell e6 1
      have x62 := blk_cell e6 2
      have x63 := blk_cell e6 3
      have x64 := blk_cell e6 4
      have x65 := blk_cell e6 5
      have x66 := blk_cell e6 6
      have x67 := blk_cell e6 7
      refine start_ (n := 20) (S := fun w' => Below wq.heap.size wq w') (ds := [13, 15, 17, 19]) #[false, false, false, false, false, false, false, false, false, false, false, false, false, false, false, false, false, false, false, false] (by kernel_rfl) rfl rfl (below_drew (Below.refl _ _)) (fun hHeld => ?_); refine with_tabW sm.tab8 sm.bits8 (fun HT_ HW_ => ?_)
      refine pure_ (i := 0) (N := some 26) (v := ?_) (a' := ?_) #[true, false, false, false, false, false, false, false, false, false, false, false, false, false, false, false, false, false, false, false] rfl rfl (any_of HT_.out (by kernel_rfl)) (fun _ _ _ h => h) (Or.inl ⟨by first | rfl | kernel_rfl, ?_⟩) ?_ ?_
      rotate_left
      · intro w'
        go_simp
        with_reducible rfl
      rotate_left
      · simp only [Act.put, List.setIfInBounds_toArray, List.set_cons_zero, List.set_cons_succ, i64_w, i32_w]
        rfl
      refine take_ (i := 1) (N := some 27) (v := ?_) (a' := ?_) #[true, true, false, false, false, false, false, false, false, false, false, false, false, false, false, false, false, false, false, false] rfl rfl (take_ofW HT_.out HW_.out (by kernel_rfl)) (fun _ _ _ h => h) (Or.inl ⟨by first | rfl | kernel_rfl, ?_⟩) hHeld ?_ ?_
      rotate_left
      · intro w' s0
        have zc := (s0.cell (by exact lB)).trans x62
        go_simp
        with_reducible rfl
      rotate_left
      · simp only [Act.put, List.setIfInBounds_toArray, List.set_cons_zero, List.set_cons_succ, i64_w, i32_w]
        rfl
      refine pure_ (i := 3) (N := some 29) (v := ?_) (a' := ?_) #[true, true, false, true, false, false, false, false, false, false, false, false, false, false, false, false, false, false, false, false] rfl rfl (any_of HT_.out (by kernel_rfl)) (fun _ _ _ h => h) (Or.inl ⟨by first | rfl | kernel_rfl, ?_⟩) ?_ ?_
      rotate_left
      · intro w'
        go_simp
        with_reducible rfl
      rotate_left
      · simp only [Act.put, List.setIfInBounds_toArray, List.set_cons_zero, List.set_cons_succ, i64_w, i32_w]
        rfl
      refine take_ (i := 4) (N := some 30) (v := ?_) (a' := ?_) #[true, true, false, true, true, false, false, false, false, false, false, false, false, false, false, false, false, false, false, false] rfl rfl (take_ofW HT_.out HW_.out (by kernel_rfl)) (fun _ _ _ h => h) (Or.inl ⟨by first | rfl | kernel_rfl, ?_⟩) hHeld ?_ ?_
      rotate_left
      · intro w' s0
        have zc := (s0.cell (by exact lB)).trans x63
        go_simp
        with_reducible rfl
      rotate_left
      · simp only [Act.put, List.setIfInBounds_toArray, List.set_cons_zero, List.set_cons_succ, i64_w, i32_w]
        rfl
      refine pure_ (i := 6) (N := some 32) (v := ?_) (a' := ?_) #[true, true, false, true, true, false, true, false, false, false, false, false, false, false, false, false, false, false, false, false] rfl rfl (any_of HT_.out (by kernel_rfl)) (fun _ _ _ h => h) (Or.inl ⟨by first | rfl | kernel_rfl, ?_⟩) ?_ ?_
      rotate_left
      · intro w'
        go_simp
        with_reducible rfl
      rotate_left
      · simp only [Act.put, List.setIfInBounds_toArray, List.set_cons_zero, List.set_cons_succ, i64_w, i32_w]
        rfl
      refine take_ (i := 7) (N := some 33) (v := ?_) (a' := ?_) #[true, true, false, true, true, false, true, true, false, false, false, false, false, false, false, false, false, false, false, false] rfl rfl (take_ofW HT_.out HW_.out (by kernel_rfl)) (fun _ _ _ h => h) (Or.inl ⟨by first | rfl | kernel_rfl, ?_⟩) hHeld ?_ ?_
      rotate_left
      · intro w' s0
        have zc := (s0.cell (by exact lB)).trans x64
        go_simp
        with_reducible rfl
      rotate_left
      · simp only [Act.put, List.setIfInBounds_toArray, List.set_cons_zero, List.set_cons_succ, i64_w, i32_w]
        rfl
      refine pure_ (i := 9) (N := some 35) (v := ?_) (a' := ?_) #[true, true, false, true, true, false, true, true, false, true, false, false, false, false, false, false, false, false, false, false] rfl rfl (any_of HT_.out (by kernel_rfl)) (fun _ _ _ h => h) (Or.inl ⟨by first | rfl | kernel_rfl, ?_⟩) ?_ ?_
      rotate_left
      · intro w'
        go_simp
        with_reducible rfl
      rotate_left
      · simp only [Act.put, List.setIfInBounds_toArray, List.set_cons_zero, List.set_cons_succ, i64_w, i32_w]
        rfl
      refine take_ (i := 10) (N := some 36) (v := ?_) (a' := ?_) #[true, true, false, true, true, false, true, true, false, true, true, false, false, false, false, false, false, false, false, false] rfl rfl (take_ofW HT_.out HW_.out (by kernel_rfl)) (fun _ _ _ h => h) (Or.inl ⟨by first | rfl | kernel_rfl, ?_⟩) hHeld ?_ ?_
      rotate_left
      · intro w' s0
        have zc := (s0.cell (by exact lB)).trans x65
        go_simp
        with_reducible rfl
      rotate_left
      · simp only [Act.put, List.setIfInBounds_toArray, List.set_cons_zero, List.set_cons_succ, i64_w, i32_w]
        rfl
      refine one_ (i := 2) (N := some 28) #[true, true, true, true, true, false, true, true, false, true, true, false, false, false, false, false, false, false, false, false] rfl rfl (one_of HT_.out (by kernel_rfl)) (by decide) (fun K hK => ?_)
      refine goes_ Try.func16 (by kernel_rfl) rfl #[.int .i64 x.f2, .int .i64 8] (by first | rfl | kernel_rfl) rfl rfl (by first | rfl | kernel_rfl) ?_
      refine (T2 _).mono ?_
      rintro e w8 ⟨rfl, hb8⟩
      have hHeld := hHeld.trans (hb8.mono hHeld.size)
      refine ⟨_, rfl, hK.out _ _ hHeld (fun hHeld => ?_)⟩
      clear hK K
      refine norm_ (a' := ?_) ?_ ?_
      rotate_left
      · show Act.put _ (some 28) _ = _
        simp only [Act.put, List.setIfInBounds_toArray, List.set_cons_zero, List.set_cons_succ, i64_w, i32_w]
        rfl
      refine pure_ (i := 12) (N := some 38) (v := ?_) (a' := ?_) #[true, true, true, true, true, false, true, true, false, true, true, false, true, false, false, false, false, false, false, false] rfl rfl (any_of HT_.out (by kernel_rfl)) (fun _ _ _ h => h) (Or.inl ⟨by first | rfl | kernel_rfl, ?_⟩) ?_ ?_
      rotate_left
      · intro w'
        go_simp
        with_reducible rfl
      rotate_left
      · simp only [Act.put, List.setIfInBounds_toArray, List.set_cons_zero, List.set_cons_succ, i64_w, i32_w]
        rfl
      refine one_ (i := 5) (N := some 31) #[true, true, true, true, true, true, true, true, false, true, true, false, true, false, false, false, false, false, false, false] rfl rfl (one_of HT_.out (by kernel_rfl)) (by decide) (fun K hK => ?_)
      refine goes_ Try.func16 (by kernel_rfl) rfl #[.int .i64 x.f3, .int .i64 8] (by first | rfl | kernel_rfl) rfl rfl (by first | rfl | kernel_rfl) ?_
      refine (T3 _).mono ?_
      rintro e w8 ⟨rfl, hb8⟩
      have hHeld := hHeld.trans (hb8.mono hHeld.size)
      refine ⟨_, rfl, hK.out _ _ hHeld (fun hHeld => ?_)⟩
      clear hK K
      refine norm_ (a' := ?_) ?_ ?_
      rotate_left
      · show Act.put _ (some 31) _ = _
        simp only [Act.put, List.setIfInBounds_toArray, List.set_cons_zero, List.set_cons_succ, i64_w, i32_w]
        rfl
      refine one_ (i := 8) (N := some 34) #[true, true, true, true, true, true, true, true, true, true, true, false, true, false, false, false, false, false, false, false] rfl rfl (one_of HT_.out (by kernel_rfl)) (by decide) (fun K hK => ?_)
      refine goes_ Try.func16 (by kernel_rfl) rfl #[.int .i64 x.f4, .int .i64 8] (by first | rfl | kernel_rfl) rfl rfl (by first | rfl | kernel_rfl) ?_
      refine (T4 _).mono ?_
      rintro e w8 ⟨rfl, hb8⟩
      have hHeld := hHeld.trans (hb8.mono hHeld.size)
      refine ⟨_, rfl, hK.out _ _ hHeld (fun hHeld => ?_)⟩
      clear hK K
      refine norm_ (a' := ?_) ?_ ?_
      rotate_left
      · show Act.put _ (some 34) _ = _
        simp only [Act.put, List.setIfInBounds_toArray, List.set_cons_zero, List.set_cons_succ, i64_w, i32_w]
        rfl
      refine one_ (i := 11) (N := some 37) #[true, true, true, true, true, true, true, true, true, true, true, true, true, false, false, false, false, false, false, false] rfl rfl (one_of HT_.out (by kernel_rfl)) (by decide) (fun K hK => ?_)
      refine goes_ Try.func16 (by kernel_rfl) rfl #[.int .i64 x.f5, .int .i64 8] (by first | rfl | kernel_rfl) rfl rfl (by first | rfl | kernel_rfl) ?_
      refine (T5 _).mono ?_
      rintro e w8 ⟨rfl, hb8⟩
      have hHeld := hHeld.trans (hb8.mono hHeld.size)
      refine ⟨_, rfl, hK.out _ _ hHeld (fun hHeld => ?_)⟩
      clear hK K
      refine norm_ (a' := ?_) ?_ ?_
      rotate_left
      · show Act.put _ (some 37) _ = _
        simp only [Act.put, List.setIfInBounds_toArray, List.set_cons_zero, List.set_cons_succ, i64_w, i32_w]
        rfl
      refine last_ (i := 13) (N := none) #[true, true, true, true, true, true, true, true, true, true, true, true, true, true, false, false, false, false, false, false] rfl rfl (one_of HT_.out (by kernel_rfl)) (by decide) (fun K hK => ?_)
      have e6 := blk_below e6 hHeld
      have hbr := hbr.trans (hHeld.mono hbr.size)
      have fz := blk_frozen e6 2
      have xz := blk_cell e6 2
      have e6 := blk_put e6 2 (.int .i64 a2) (cs' := #[.int .i64 a0, .int .i64 a1, .int .i64 a2, .int .i64 x.f3, .int .i64 x.f4, .int .i64 x.f5, .int .u64 x.f6, .int .i64 x.f7]) rfl
      have hbr := below_set (j := 2) (v := .int .i64 a2) hbr (Nat.le_of_eq hB6.out.symm)
      refine skip_ (w1 := World.setCell w8 ⟨B6, 2, none⟩ (.int .i64 a2)) (by first | rfl | kernel_rfl) rfl ?_ ?_
      · go_simp
      refine hK.out _ _ ?_
      clear hK K fz xz
      generalize World.setCell w8 ⟨B6, 2, none⟩ (.int .i64 a2) = wq2 at e6 hbr ⊢
      refine pure_ (i := 14) (N := some 39) (v := ?_) (a' := ?_) #[true, true, true, true, true, true, true, true, true, true, true, true, true, true, true, false, false, false, false, false] rfl rfl (any_of HT_.out (by kernel_rfl)) (fun _ _ _ h => h) (Or.inl ⟨by first | rfl | kernel_rfl, ?_⟩) ?_ ?_
      rotate_left
      · intro w'
        go_simp
        with_reducible rfl
      rotate_left
      · simp only [Act.put, List.setIfInBounds_toArray, List.set_cons_zero, List.set_cons_succ, i64_w, i32_w]
        rfl
      refine last_ (i := 15) (N := none) #[true, true, true, true, true, true, true, true, true, true, true, true, true, true, true, true, false, false, false, false] rfl rfl (one_of HT_.out (by kernel_rfl)) (by decide) (fun K hK => ?_)
      have fz := blk_frozen e6 3
      have xz := blk_cell e6 3
      have e6 := blk_put e6 3 (.int .i64 a3) (cs' := #[.int .i64 a0, .int .i64 a1, .int .i64 a2, .int .i64 a3, .int .i64 x.f4, .int .i64 x.f5, .int .u64 x.f6, .int .i64 x.f7]) rfl
      have hbr := below_set (j := 3) (v := .int .i64 a3) hbr (Nat.le_of_eq hB6.out.symm)
      refine skip_ (w1 := World.setCell wq2 ⟨B6, 3, none⟩ (.int .i64 a3)) (by first | rfl | kernel_rfl) rfl ?_ ?_
      · go_simp
      refine hK.out _ _ ?_
      clear hK K fz xz
      generalize World.setCell wq2 ⟨B6, 3, none⟩ (.int .i64 a3) = wq3 at e6 hbr ⊢
      refine pure_ (i := 16) (N := some 40) (v := ?_) (a' := ?_) #[true, true, true, true, true, true, true, true, true, true, true, true, true, true, true, true, true, false, false, false] rfl rfl (any_of HT_.out (by kernel_rfl)) (fun _ _ _ h => h) (Or.inl ⟨by first | rfl | kernel_rfl, ?_⟩) ?_ ?_
      rotate_left
      · intro w'
        go_simp
        with_reducible rfl
      rotate_left
      · simp only [Act.put, List.setIfInBounds_toArray, List.set_cons_zero, List.set_cons_succ, i64_w, i32_w]
        rfl
      refine last_ (i := 17) (N := none) #[true, true, true, true, true, true, true, true, true, true, true, true, true, true, true, true, true, true, false, false] rfl rfl (one_of HT_.out (by kernel_rfl)) (by decide) (fun K hK => ?_)
      have fz := blk_frozen e6 4
      have xz := blk_cell e6 4
      have e6 := blk_put e6 4 (.int .i64 a4) (cs' := #[.int .i64 a0, .int .i64 a1, .int .i64 a2, .int .i64 a3, .int .i64 a4, .int .i64 x.f5, .int .u64 x.f6, .int .i64 x.f7]) rfl
      have hbr := below_set (j := 4) (v := .int .i64 a4) hbr (Nat.le_of_eq hB6.out.symm)
      refine skip_ (w1 := World.setCell wq3 ⟨B6, 4, none⟩ (.int .i64 a4)) (by first | rfl | kernel_rfl) rfl ?_ ?_
      · go_simp
      refine hK.out _ _ ?_
      clear hK K fz xz
      generalize World.setCell wq3 ⟨B6, 4, none⟩ (.int .i64 a4) = wq4 at e6 hbr ⊢
      refine pure_ (i := 18) (N := some 41) (v := ?_) (a' := ?_) #[true, true, true, true, true, true, true, true, true, true, true, true, true, true, true, true, true, true, true, false] rfl rfl (any_of HT_.out (by kernel_rfl)) (fun _ _ _ h => h) (Or.inl ⟨by first | rfl | kernel_rfl, ?_⟩) ?_ ?_
      rotate_left
      · intro w'
        go_simp
        with_reducible rfl
      rotate_left
      · simp only [Act.put, List.setIfInBounds_toArray, List.set_cons_zero, List.set_cons_succ, i64_w, i32_w]
        rfl
      refine last_ (i := 19) (N := none) #[true, true, true, true, true, true, true, true, true, true, true, true, true, true, true, true, true, true, true, true] rfl rfl (one_of HT_.out (by kernel_rfl)) (by decide) (fun K hK => ?_)
      have fz := blk_frozen e6 5
      have xz := blk_cell e6 5
      have e6 := blk_put e6 5 (.int .i64 a5) (cs' := #[.int .i64 a0, .int .i64 a1, .int .i64 a2, .int .i64 a3, .int .i64 a4, .int .i64 a5, .int .u64 x.f6, .int .i64 x.f7]) rfl
      have hbr := below_set (j := 5) (v := .int .i64 a5) hbr (Nat.le_of_eq hB6.out.symm)
      refine skip_ (w1 := World.setCell wq4 ⟨B6, 5, none⟩ (.int .i64 a5)) (by first | rfl | kernel_rfl) rfl ?_ ?_
      · go_simp
      refine hK.out _ _ ?_
      clear hK K fz xz
      generalize World.setCell wq4 ⟨B6, 5, none⟩ (.int .i64 a5) = wq5 at e6 hbr ⊢
      refine done_ (done_of HT_.out (by kernel_rfl)) ?_
      clear HT_ HW_
      clear x60 x61 x62 x63 x64 x65 x66 x67
      clear lB hHeld
      have x60 := blk_cell e6 0
      have x61 := blk_cell e6 1
      have x62 := blk_cell e6 2
      have x63 := blk_cell e6 3
      have x64 := blk_cell e6 4
      have x65 := blk_cell e6 5
      have x66 := blk_cell e6 6
      have x67 := blk_cell e6 7
      have f63 := blk_frozen e6 3
      by_cases h3 : m3 = 0
      · have h3b : (m3 == 0) = true := by simpa using h3
        go_upto_region 9 with go_in
        by_cases h4 : a0 = 4
        · have h4b : (a0 == 4) = true := by simpa using h4
          have hfx : Aside0 (FX x = ⟨a0, a1, a2, -1, a4, a5, a6, a7⟩) := ⟨by obtain ⟨h0_, h1_, h2_, h3_, h4_, h5_, h6_, h7_, hm_⟩ := hA.out; rw [hFX.out]; unfold smallX; rw [← h0_, ← h1_, ← h2_, ← h3_, ← h4_, ← h5_, ← h6_, ← h7_, ← hm_, if_pos ⟨h3, .inl h4⟩]⟩
          replace h4 := Aside0.mk h4
          replace h3 := Aside0.mk h3
          go_upto_region 11 with go_in
          have e6 := blk_put e6 3 (.int .i64 (-1)) (cs' := #[.int .i64 a0, .int .i64 a1, .int .i64 a2, .int .i64 (-1), .int .i64 a4, .int .i64 a5, .int .u64 x.f6, .int .i64 x.f7]) rfl
          have hbr := below_set (j := 3) (v := .int .i64 (-1)) hbr (Nat.le_of_eq hB6.out.symm)
          clear f63
          generalize World.setCell wq5 ⟨B6, 3, none⟩ (.int .i64 (-1)) = wz at e6 hbr ⊢
          clear x60 x61 x62 x63 x64 x65 x66 x67
          have x66 := blk_cell e6 6
          have x67 := blk_cell e6 7
          have lB : B6 < wz.heap.size := blk_lt e6
          have hwr : wrap64 ((T.length : Int) + 1) = (T.length : Int) + 1 := wrap_in (by omega) (by omega)
          refine start_ (n := 12) (S := fun w' => Below wz.heap.size wz w') (ds := [9, 11]) #[false, false, false, false, false, false, false, false, false, false, false, false] (by kernel_rfl) rfl rfl (below_drew (Below.refl _ _)) (fun hHeld => ?_); refine with_tabW sm.tab11 sm.bits11 (fun HT_ HW_ => ?_)
          refine pure_ (i := 0) (N := some 57) (v := ?_) (a' := ?_) #[true, false, false, false, false, false, false, false, false, false, false, false] rfl rfl (any_of HT_.out (by kernel_rfl)) (fun _ _ _ h => h) (Or.inl ⟨by first | rfl | kernel_rfl, ?_⟩) ?_ ?_
          rotate_left
          · intro w'
            go_simp
            with_reducible rfl
          rotate_left
          · simp only [Act.put, List.setIfInBounds_toArray, List.set_cons_zero, List.set_cons_succ, i64_w, i32_w]
            rfl
          refine take_ (i := 1) (N := some 58) (v := ?_) (a' := ?_) #[true, true, false, false, false, false, false, false, false, false, false, false] rfl rfl (take_ofW HT_.out HW_.out (by kernel_rfl)) (fun _ _ _ h => h) (Or.inl ⟨by first | rfl | kernel_rfl, ?_⟩) hHeld ?_ ?_
          rotate_left
          · intro w' s0
            have zc := (s0.cell (by exact lB)).trans x66
            go_simp
            with_reducible rfl
          rotate_left
          · simp only [Act.put, List.setIfInBounds_toArray, List.set_cons_zero, List.set_cons_succ, i64_w, i32_w]
            rfl
          refine pure_ (i := 2) (N := some 59) (v := ?_) (a' := ?_) #[true, true, true, false, false, false, false, false, false, false, false, false] rfl rfl (any_of HT_.out (by kernel_rfl)) (fun _ _ _ h => h) (Or.inl ⟨by first | rfl | kernel_rfl, ?_⟩) ?_ ?_
          rotate_left
          · intro w'
            go_simp
            with_reducible rfl
          rotate_left
          · simp only [Act.put, List.setIfInBounds_toArray, List.set_cons_zero, List.set_cons_succ, i64_w, i32_w]
            rfl
          refine pure_ (i := 3) (N := some 60) (v := ?_) (a' := ?_) #[true, true, true, true, false, false, false, false, false, false, false, false] rfl rfl (any_of HT_.out (by kernel_rfl)) (fun _ _ _ h => h) (Or.inl ⟨by first | rfl | kernel_rfl, ?_⟩) ?_ ?_
          rotate_left
          · intro w'
            go_simp
            with_reducible rfl
          rotate_left
          · simp only [Act.put, List.setIfInBounds_toArray, List.set_cons_zero, List.set_cons_succ, i64_w, i32_w]
            rfl
          refine take_ (i := 4) (N := some 61) (v := ?_) (a' := ?_) #[true, true, true, true, true, false, false, false, false, false, false, false] rfl rfl (take_ofW HT_.out HW_.out (by kernel_rfl)) (fun _ _ _ h => h) (Or.inl ⟨by first | rfl | kernel_rfl, ?_⟩) hHeld ?_ ?_
          rotate_left
          · intro w' s0
            have zc := (s0.cell (by exact lB)).trans x67
            go_simp
            with_reducible rfl
          rotate_left
          · simp only [Act.put, List.setIfInBounds_toArray, List.set_cons_zero, List.set_cons_succ, i64_w, i32_w]
            rfl
          refine pure_ (i := 5) (N := some 62) (v := ?_) (a' := ?_) #[true, true, true, true, true, true, false, false, false, false, false, false] rfl rfl (any_of HT_.out (by kernel_rfl)) (fun _ _ _ h => h) (Or.inl ⟨by first | rfl | kernel_rfl, ?_⟩) ?_ ?_
          rotate_left
          · intro w'
            go_simp
            with_reducible rfl
          rotate_left
          · simp only [Act.put, List.setIfInBounds_toArray, List.set_cons_zero, List.set_cons_succ, i64_w, i32_w]
            rfl
          refine pure_ (i := 6) (N := some 63) (v := ?_) (a' := ?_) #[true, true, true, true, true, true, true, false, false, false, false, false] rfl rfl (any_of HT_.out (by kernel_rfl)) (fun _ _ _ h => h) (Or.inl ⟨by first | rfl | kernel_rfl, ?_⟩) ?_ ?_
          rotate_left
          · intro w'
            go_simp
            (try simp only [i64_w, hwr])
            with_reducible rfl
          rotate_left
          · simp only [Act.put, List.setIfInBounds_toArray, List.set_cons_zero, List.set_cons_succ, i64_w, i32_w]
            rfl
          refine pure_ (i := 8) (N := some 65) (v := ?_) (a' := ?_) #[true, true, true, true, true, true, true, false, true, false, false, false] rfl rfl (any_of HT_.out (by kernel_rfl)) (fun _ _ _ h => h) (Or.inl ⟨by first | rfl | kernel_rfl, ?_⟩) ?_ ?_
          rotate_left
          · intro w'
            go_simp
            with_reducible rfl
          rotate_left
          · simp only [Act.put, List.setIfInBounds_toArray, List.set_cons_zero, List.set_cons_succ, i64_w, i32_w]
            rfl
          refine one_ (i := 7) (N := some 64) #[true, true, true, true, true, true, true, true, true, false, false, false] rfl rfl (one_of HT_.out (by kernel_rfl)) (by decide) (fun K hK => ?_)
          refine goes_ Try.func16 (by kernel_rfl) rfl #[.int .i64 x.f7, .int .i64 ((T.length : Int) + 1)] (by first | rfl | kernel_rfl) rfl rfl (by first | rfl | kernel_rfl) ?_
          refine (T7 _).mono ?_
          rintro e w8 ⟨rfl, hb8⟩
          have hHeld := hHeld.trans (hb8.mono hHeld.size)
          refine ⟨_, rfl, hK.out _ _ hHeld (fun hHeld => ?_)⟩
          clear hK K
          refine norm_ (a' := ?_) ?_ ?_
          rotate_left
          · show Act.put _ (some 64) _ = _
            simp only [Act.put, List.setIfInBounds_toArray, List.set_cons_zero, List.set_cons_succ, i64_w, i32_w]
            rfl
          refine last_ (i := 9) (N := none) #[true, true, true, true, true, true, true, true, true, true, false, false] rfl rfl (one_of HT_.out (by kernel_rfl)) (by decide) (fun K hK => ?_)
          have e6 := blk_below e6 hHeld
          have hbr := hbr.trans (hHeld.mono hbr.size)
          have fz := blk_frozen e6 6
          have xz := blk_cell e6 6
          have e6 := blk_put e6 6 (.int .u64 a6) (cs' := #[.int .i64 a0, .int .i64 a1, .int .i64 a2, .int .i64 (-1), .int .i64 a4, .int .i64 a5, .int .u64 a6, .int .i64 x.f7]) rfl
          have hbr := below_set (j := 6) (v := .int .u64 a6) hbr (Nat.le_of_eq hB6.out.symm)
          refine skip_ (w1 := World.setCell w8 ⟨B6, 6, none⟩ (.int .u64 a6)) (by first | rfl | kernel_rfl) rfl ?_ ?_
          · go_simp
          refine hK.out _ _ ?_
          clear hK K fz xz
          generalize World.setCell w8 ⟨B6, 6, none⟩ (.int .u64 a6) = wz6 at e6 hbr ⊢
          refine pure_ (i := 10) (N := some 66) (v := ?_) (a' := ?_) #[true, true, true, true, true, true, true, true, true, true, true, false] rfl rfl (any_of HT_.out (by kernel_rfl)) (fun _ _ _ h => h) (Or.inl ⟨by first | rfl | kernel_rfl, ?_⟩) ?_ ?_
          rotate_left
          · intro w'
            go_simp
            with_reducible rfl
          rotate_left
          · simp only [Act.put, List.setIfInBounds_toArray, List.set_cons_zero, List.set_cons_succ, i64_w, i32_w]
            rfl
          refine last_ (i := 11) (N := none) #[true, true, true, true, true, true, true, true, true, true, true, true] rfl rfl (one_of HT_.out (by kernel_rfl)) (by decide) (fun K hK => ?_)
          have fz := blk_frozen e6 7
          have xz := blk_cell e6 7
          have e6 := blk_put e6 7 (.int .i64 a7) (cs' := #[.int .i64 a0, .int .i64 a1, .int .i64 a2, .int .i64 (-1), .int .i64 a4, .int .i64 a5, .int .u64 a6, .int .i64 a7]) rfl
          have hbr := below_set (j := 7) (v := .int .i64 a7) hbr (Nat.le_of_eq hB6.out.symm)
          refine skip_ (w1 := World.setCell wz6 ⟨B6, 7, none⟩ (.int .i64 a7)) (by first | rfl | kernel_rfl) rfl ?_ ?_
          · go_simp
          refine hK.out _ _ ?_
          clear hK K fz xz
          generalize World.setCell wz6 ⟨B6, 7, none⟩ (.int .i64 a7) = wz7 at e6 hbr ⊢
          refine done_ (done_of HT_.out (by kernel_rfl)) ?_
          clear HT_ HW_
          clear lB hHeld x66 x67 hwr
          have HR := Kd.R_below hR hbr
          have HB := hB.trans (hbr.mono hB.size)
          have x60 := blk_cell e6 0
          have x61 := blk_cell e6 1
          have x62 := blk_cell e6 2
          have x63 := blk_cell e6 3
          have x64 := blk_cell e6 4
          have x65 := blk_cell e6 5
          have x66 := blk_cell e6 6
          have x67 := blk_cell e6 7
          clear et3 et8 T0 T1 T2 T3 T4 T5 T7
          clear hux hA hx hFX hmn hcut hCT hC hHeld hb8 hbr
          (try clear h3)
          (try clear h3b)
          (try clear h4)
          (try clear h4b)
          (try clear h5)
          (try clear h5b)
          go_wp2_with (first
            | (at_builtin; go_loud (refine push31 w.heap.size rfl (.tmp 67) (.tmp 69) rfl u3 ((T.take k).map FX) ⟨a0, a1, a2, (-1), a4, a5, a6, a7⟩ rfl (by first | rfl | (go_simp; done) | (go_simp; rfl)) HR HB HB.size (by have := hacc.out; omega) ?_; intro v3 w12 ho hb hg hat)))
          go_roundw
          case rel => exact ⟨k + 1, by first | rfl | go_num, by omega, by rw [htk.out, hfx.out]; exact ho, hb⟩
          case measure => simp [intOf]; omega
        · have h4b : (a0 == 4) = false := by simpa using h4
          by_cases h5 : a0 = 5
          · have h5b : (a0 == 5) = true := by simpa using h5
            have hfx : Aside0 (FX x = ⟨a0, a1, a2, -1, a4, a5, a6, a7⟩) := ⟨by obtain ⟨h0_, h1_, h2_, h3_, h4_, h5_, h6_, h7_, hm_⟩ := hA.out; rw [hFX.out]; unfold smallX; rw [← h0_, ← h1_, ← h2_, ← h3_, ← h4_, ← h5_, ← h6_, ← h7_, ← hm_, if_pos ⟨h3, .inr h5⟩]⟩
            replace h5 := Aside0.mk h5
            replace h3 := Aside0.mk h3
            go_upto_region 11 with go_in
            have e6 := blk_put e6 3 (.int .i64 (-1)) (cs' := #[.int .i64 a0, .int .i64 a1, .int .i64 a2, .int .i64 (-1), .int .i64 a4, .int .i64 a5, .int .u64 x.f6, .int .i64 x.f7]) rfl
            have hbr := below_set (j := 3) (v := .int .i64 (-1)) hbr (Nat.le_of_eq hB6.out.symm)
            clear f63
            generalize World.setCell wq5 ⟨B6, 3, none⟩ (.int .i64 (-1)) = wz at e6 hbr ⊢
            clear x60 x61 x62 x63 x64 x65 x66 x67
            have x66 := blk_cell e6 6
            have x67 := blk_cell e6 7
            have lB : B6 < wz.heap.size := blk_lt e6
            have hwr : wrap64 ((T.length : Int) + 1) = (T.length : Int) + 1 := wrap_in (by omega) (by omega)
            refine start_ (n := 12) (S := fun w' => Below wz.heap.size wz w') (ds := [9, 11]) #[false, false, false, false, false, false, false, false, false, false, false, false] (by kernel_rfl) rfl rfl (below_drew (Below.refl _ _)) (fun hHeld => ?_); refine with_tabW sm.tab11 sm.bits11 (fun HT_ HW_ => ?_)
            refine pure_ (i := 0) (N := some 57) (v := ?_) (a' := ?_) #[true, false, false, false, false, false, false, false, false, false, false, false] rfl rfl (any_of HT_.out (by kernel_rfl)) (fun _ _ _ h => h) (Or.inl ⟨by first | rfl | kernel_rfl, ?_⟩) ?_ ?_
            rotate_left
            · intro w'
              go_simp
              with_reducible rfl
            rotate_left
            · simp only [Act.put, List.setIfInBounds_toArray, List.set_cons_zero, List.set_cons_succ, i64_w, i32_w]
              rfl
            refine take_ (i := 1) (N := some 58) (v := ?_) (a' := ?_) #[true, true, false, false, false, false, false, false, false, false, false, false] rfl rfl (take_ofW HT_.out HW_.out (by kernel_rfl)) (fun _ _ _ h => h) (Or.inl ⟨by first | rfl | kernel_rfl, ?_⟩) hHeld ?_ ?_
            rotate_left
            · intro w' s0
              have zc := (s0.cell (by exact lB)).trans x66
              go_simp
              with_reducible rfl
            rotate_left
            · simp only [Act.put, List.setIfInBounds_toArray, List.set_cons_zero, List.set_cons_succ, i64_w, i32_w]
              rfl
            refine pure_ (i := 2) (N := some 59) (v := ?_) (a' := ?_) #[true, true, true, false, false, false, false, false, false, false, false, false] rfl rfl (any_of HT_.out (by kernel_rfl)) (fun _ _ _ h => h) (Or.inl ⟨by first | rfl | kernel_rfl, ?_⟩) ?_ ?_
            rotate_left
            · intro w'
              go_simp
              with_reducible rfl
            rotate_left
            · simp only [Act.put, List.setIfInBounds_toArray, List.set_cons_zero, List.set_cons_succ, i64_w, i32_w]
              rfl
            refine pure_ (i := 3) (N := some 60) (v := ?_) (a' := ?_) #[true, true, true, true, false, false, false, false, false, false, false, false] rfl rfl (any_of HT_.out (by kernel_rfl)) (fun _ _ _ h => h) (Or.inl ⟨by first | rfl | kernel_rfl, ?_⟩) ?_ ?_
            rotate_left
            · intro w'
              go_simp
              with_reducible rfl
            rotate_left
            · simp only [Act.put, List.setIfInBounds_toArray, List.set_cons_zero, List.set_cons_succ, i64_w, i32_w]
              rfl
            refine take_ (i := 4) (N := some 61) (v := ?_) (a' := ?_) #[true, true, true, true, true, false, false, false, false, false, false, false] rfl rfl (take_ofW HT_.out HW_.out (by kernel_rfl)) (fun _ _ _ h => h) (Or.inl ⟨by first | rfl | kernel_rfl, ?_⟩) hHeld ?_ ?_
            rotate_left
            · intro w' s0
              have zc := (s0.cell (by exact lB)).trans x67
              go_simp
              with_reducible rfl
            rotate_left
            · simp only [Act.put, List.setIfInBounds_toArray, List.set_cons_zero, List.set_cons_succ, i64_w, i32_w]
              rfl
            refine pure_ (i := 5) (N := some 62) (v := ?_) (a' := ?_) #[true, true, true, true, true, true, false, false, false, false, false, false] rfl rfl (any_of HT_.out (by kernel_rfl)) (fun _ _ _ h => h) (Or.inl ⟨by first | rfl | kernel_rfl, ?_⟩) ?_ ?_
            rotate_left
            · intro w'
              go_simp
              with_reducible rfl
            rotate_left
            · simp only [Act.put, List.setIfInBounds_toArray, List.set_cons_zero, List.set_cons_succ, i64_w, i32_w]
              rfl
            refine pure_ (i := 6) (N := some 63) (v := ?_) (a' := ?_) #[true, true, true, true, true, true, true, false, false, false, false, false] rfl rfl (any_of HT_.out (by kernel_rfl)) (fun _ _ _ h => h) (Or.inl ⟨by first | rfl | kernel_rfl, ?_⟩) ?_ ?_
            rotate_left
            · intro w'
              go_simp
              (try simp only [i64_w, hwr])
              with_reducible rfl
            rotate_left
            · simp only [Act.put, List.setIfInBounds_toArray, List.set_cons_zero, List.set_cons_succ, i64_w, i32_w]
              rfl
            refine pure_ (i := 8) (N := some 65) (v := ?_) (a' := ?_) #[true, true, true, true, true, true, true, false, true, false, false, false] rfl rfl (any_of HT_.out (by kernel_rfl)) (fun _ _ _ h => h) (Or.inl ⟨by first | rfl | kernel_rfl, ?_⟩) ?_ ?_
            rotate_left
            · intro w'
              go_simp
              with_reducible rfl
            rotate_left
            · simp only [Act.put, List.setIfInBounds_toArray, List.set_cons_zero, List.set_cons_succ, i64_w, i32_w]
              rfl
            refine one_ (i := 7) (N := some 64) #[true, true, true, true, true, true, true, true, true, false, false, false] rfl rfl (one_of HT_.out (by kernel_rfl)) (by decide) (fun K hK => ?_)
            refine goes_ Try.func16 (by kernel_rfl) rfl #[.int .i64 x.f7, .int .i64 ((T.length : Int) + 1)] (by first | rfl | kernel_rfl) rfl rfl (by first | rfl | kernel_rfl) ?_
            refine (T7 _).mono ?_
            rintro e w8 ⟨rfl, hb8⟩
            have hHeld := hHeld.trans (hb8.mono hHeld.size)
            refine ⟨_, rfl, hK.out _ _ hHeld (fun hHeld => ?_)⟩
            clear hK K
            refine norm_ (a' := ?_) ?_ ?_
            rotate_left
            · show Act.put _ (some 64) _ = _
              simp only [Act.put, List.setIfInBounds_toArray, List.set_cons_zero, List.set_cons_succ, i64_w, i32_w]
              rfl
            refine last_ (i := 9) (N := none) #[true, true, true, true, true, true, true, true, true, true, false, false] rfl rfl (one_of HT_.out (by kernel_rfl)) (by decide) (fun K hK => ?_)
            have e6 := blk_below e6 hHeld
            have hbr := hbr.trans (hHeld.mono hbr.size)
            have fz := blk_frozen e6 6
            have xz := blk_cell e6 6
            have e6 := blk_put e6 6 (.int .u64 a6) (cs' := #[.int .i64 a0, .int .i64 a1, .int .i64 a2, .int .i64 (-1), .int .i64 a4, .int .i64 a5, .int .u64 a6, .int .i64 x.f7]) rfl
            have hbr := below_set (j := 6) (v := .int .u64 a6) hbr (Nat.le_of_eq hB6.out.symm)
            refine skip_ (w1 := World.setCell w8 ⟨B6, 6, none⟩ (.int .u64 a6)) (by first | rfl | kernel_rfl) rfl ?_ ?_
            · go_simp
            refine hK.out _ _ ?_
            clear hK K fz xz
            generalize World.setCell w8 ⟨B6, 6, none⟩ (.int .u64 a6) = wz6 at e6 hbr ⊢
            refine pure_ (i := 10) (N := some 66) (v := ?_) (a' := ?_) #[true, true, true, true, true, true, true, true, true, true, true, false] rfl rfl (any_of HT_.out (by kernel_rfl)) (fun _ _ _ h => h) (Or.inl ⟨by first | rfl | kernel_rfl, ?_⟩) ?_ ?_
            rotate_left
            · intro w'
              go_simp
              with_reducible rfl
            rotate_left
            · simp only [Act.put, List.setIfInBounds_toArray, List.set_cons_zero, List.set_cons_succ, i64_w, i32_w]
              rfl
            refine last_ (i := 11) (N := none) #[true, true, true, true, true, true, true, true, true, true, true, true] rfl rfl (one_of HT_.out (by kernel_rfl)) (by decide) (fun K hK => ?_)
            have fz := blk_frozen e6 7
            have xz := blk_cell e6 7
            have e6 := blk_put e6 7 (.int .i64 a7) (cs' := #[.int .i64 a0, .int .i64 a1, .int .i64 a2, .int .i64 (-1), .int .i64 a4, .int .i64 a5, .int .u64 a6, .int .i64 a7]) rfl
            have hbr := below_set (j := 7) (v := .int .i64 a7) hbr (Nat.le_of_eq hB6.out.symm)
            refine skip_ (w1 := World.setCell wz6 ⟨B6, 7, none⟩ (.int .i64 a7)) (by first | rfl | kernel_rfl) rfl ?_ ?_
            · go_simp
            refine hK.out _ _ ?_
            clear hK K fz xz
            generalize World.setCell wz6 ⟨B6, 7, none⟩ (.int .i64 a7) = wz7 at e6 hbr ⊢
            refine done_ (done_of HT_.out (by kernel_rfl)) ?_
            clear HT_ HW_
            clear lB hHeld x66 x67 hwr
            have HR := Kd.R_below hR hbr
            have HB := hB.trans (hbr.mono hB.size)
            have x60 := blk_cell e6 0
            have x61 := blk_cell e6 1
            have x62 := blk_cell e6 2
            have x63 := blk_cell e6 3
            have x64 := blk_cell e6 4
            have x65 := blk_cell e6 5
            have x66 := blk_cell e6 6
            have x67 := blk_cell e6 7
            clear et3 et8 T0 T1 T2 T3 T4 T5 T7
            clear hux hA hx hFX hmn hcut hCT hC hHeld hb8 hbr
            (try clear h3)
            (try clear h3b)
            (try clear h4)
            (try clear h4b)
            (try clear h5)
            (try clear h5b)
            go_wp2_with (first
              | (at_builtin; go_loud (refine push31 w.heap.size rfl (.tmp 67) (.tmp 69) rfl u3 ((T.take k).map FX) ⟨a0, a1, a2, (-1), a4, a5, a6, a7⟩ rfl (by first | rfl | (go_simp; done) | (go_simp; rfl)) HR HB HB.size (by have := hacc.out; omega) ?_; intro v3 w12 ho hb hg hat)))
            go_roundw
            case rel => exact ⟨k + 1, by first | rfl | go_num, by omega, by rw [htk.out, hfx.out]; exact ho, hb⟩
            case measure => simp [intOf]; omega
          · have h5b : (a0 == 5) = false := by simpa using h5
            have hfx : Aside0 (FX x = ⟨a0, a1, a2, a3, a4, a5, a6, a7⟩) := ⟨by obtain ⟨h0_, h1_, h2_, h3_, h4_, h5_, h6_, h7_, hm_⟩ := hA.out; rw [hFX.out]; unfold smallX; rw [← h0_, ← h1_, ← h2_, ← h3_, ← h4_, ← h5_, ← h6_, ← h7_, ← hm_, if_neg (fun h => h.2.elim h4 h5)]⟩
            replace h3 := Aside0.mk h3
            go_upto_region 11 with go_in
            clear f63
            generalize wq5 = wz at e6 hbr ⊢
            clear x60 x61 x62 x63 x64 x65 x66 x67
            have x66 := blk_cell e6 6
            have x67 := blk_cell e6 7
            have lB : B6 < wz.heap.size := blk_lt e6
            have hwr : wrap64 ((T.length : Int) + 1) = (T.length : Int) + 1 := wrap_in (by omega) (by omega)
            refine start_ (n := 12) (S := fun w' => Below wz.heap.size wz w') (ds := [9, 11]) #[false, false, false, false, false, false, false, false, false, false, false, false] (by kernel_rfl) rfl rfl (below_drew (Below.refl _ _)) (fun hHeld => ?_); refine with_tabW sm.tab11 sm.bits11 (fun HT_ HW_ => ?_)
            refine pure_ (i := 0) (N := some 57) (v := ?_) (a' := ?_) #[true, false, false, false, false, false, false, false, false, false, false, false] rfl rfl (any_of HT_.out (by kernel_rfl)) (fun _ _ _ h => h) (Or.inl ⟨by first | rfl | kernel_rfl, ?_⟩) ?_ ?_
            rotate_left
            · intro w'
              go_simp
              with_reducible rfl
            rotate_left
            · simp only [Act.put, List.setIfInBounds_toArray, List.set_cons_zero, List.set_cons_succ, i64_w, i32_w]
              rfl
            refine take_ (i := 1) (N := some 58) (v := ?_) (a' := ?_) #[true, true, false, false, false, false, false, false, false, false, false, false] rfl rfl (take_ofW HT_.out HW_.out (by kernel_rfl)) (fun _ _ _ h => h) (Or.inl ⟨by first | rfl | kernel_rfl, ?_⟩) hHeld ?_ ?_
            rotate_left
            · intro w' s0
              have zc := (s0.cell (by exact lB)).trans x66
              go_simp
              with_reducible rfl
            rotate_left
            · simp only [Act.put, List.setIfInBounds_toArray, List.set_cons_zero, List.set_cons_succ, i64_w, i32_w]
              rfl
            refine pure_ (i := 2) (N := some 59) (v := ?_) (a' := ?_) #[true, true, true, false, false, false, false, false, false, false, false, false] rfl rfl (any_of HT_.out (by kernel_rfl)) (fun _ _ _ h => h) (Or.inl ⟨by first | rfl | kernel_rfl, ?_⟩) ?_ ?_
            rotate_left
            · intro w'
              go_simp
              with_reducible rfl
            rotate_left
            · simp only [Act.put, List.setIfInBounds_toArray, List.set_cons_zero, List.set_cons_succ, i64_w, i32_w]
              rfl
            refine pure_ (i := 3) (N := some 60) (v := ?_) (a' := ?_) #[true, true, true, true, false, false, false, false, false, false, false, false] rfl rfl (any_of HT_.out (by kernel_rfl)) (fun _ _ _ h => h) (Or.inl ⟨by first | rfl | kernel_rfl, ?_⟩) ?_ ?_
            rotate_left
            · intro w'
              go_simp
              with_reducible rfl
            rotate_left
            · simp only [Act.put, List.setIfInBounds_toArray, List.set_cons_zero, List.set_cons_succ, i64_w, i32_w]
              rfl
            refine take_ (i := 4) (N := some 61) (v := ?_) (a' := ?_) #[true, true, true, true, true, false, false, false, false, false, false, false] rfl rfl (take_ofW HT_.out HW_.out (by kernel_rfl)) (fun _ _ _ h => h) (Or.inl ⟨by first | rfl | kernel_rfl, ?_⟩) hHeld ?_ ?_
            rotate_left
            · intro w' s0
              have zc := (s0.cell (by exact lB)).trans x67
              go_simp
              with_reducible rfl
            rotate_left
            · simp only [Act.put, List.setIfInBounds_toArray, List.set_cons_zero, List.set_cons_succ, i64_w, i32_w]
              rfl
            refine pure_ (i := 5) (N := some 62) (v := ?_) (a' := ?_) #[true, true, true, true, true, true, false, false, false, false, false, false] rfl rfl (any_of HT_.out (by kernel_rfl)) (fun _ _ _ h => h) (Or.inl ⟨by first | rfl | kernel_rfl, ?_⟩) ?_ ?_
            rotate_left
            · intro w'
              go_simp
              with_reducible rfl
            rotate_left
            · simp only [Act.put, List.setIfInBounds_toArray, List.set_cons_zero, List.set_cons_succ, i64_w, i32_w]
              rfl
            refine pure_ (i := 6) (N := some 63) (v := ?_) (a' := ?_) #[true, true, true, true, true, true, true, false, false, false, false, false] rfl rfl (any_of HT_.out (by kernel_rfl)) (fun _ _ _ h => h) (Or.inl ⟨by first | rfl | kernel_rfl, ?_⟩) ?_ ?_
            rotate_left
            · intro w'
              go_simp
              (try simp only [i64_w, hwr])
              with_reducible rfl
            rotate_left
            · simp only [Act.put, List.setIfInBounds_toArray, List.set_cons_zero, List.set_cons_succ, i64_w, i32_w]
              rfl
            refine pure_ (i := 8) (N := some 65) (v := ?_) (a' := ?_) #[true, true, true, true, true, true, true, false, true, false, false, false] rfl rfl (any_of HT_.out (by kernel_rfl)) (fun _ _ _ h => h) (Or.inl ⟨by first | rfl | kernel_rfl, ?_⟩) ?_ ?_
            rotate_left
            · intro w'
              go_simp
              with_reducible rfl
            rotate_left
            · simp only [Act.put, List.setIfInBounds_toArray, List.set_cons_zero, List.set_cons_succ, i64_w, i32_w]
              rfl
            refine one_ (i := 7) (N := some 64) #[true, true, true, true, true, true, true, true, true, false, false, false] rfl rfl (one_of HT_.out (by kernel_rfl)) (by decide) (fun K hK => ?_)
            refine goes_ Try.func16 (by kernel_rfl) rfl #[.int .i64 x.f7, .int .i64 ((T.length : Int) + 1)] (by first | rfl | kernel_rfl) rfl rfl (by first | rfl | kernel_rfl) ?_
            refine (T7 _).mono ?_
            rintro e w8 ⟨rfl, hb8⟩
            have hHeld := hHeld.trans (hb8.mono hHeld.size)
            refine ⟨_, rfl, hK.out _ _ hHeld (fun hHeld => ?_)⟩
            clear hK K
            refine norm_ (a' := ?_) ?_ ?_
            rotate_left
            · show Act.put _ (some 64) _ = _
              simp only [Act.put, List.setIfInBounds_toArray, List.set_cons_zero, List.set_cons_succ, i64_w, i32_w]
              rfl
            refine last_ (i := 9) (N := none) #[true, true, true, true, true, true, true, true, true, true, false, false] rfl rfl (one_of HT_.out (by kernel_rfl)) (by decide) (fun K hK => ?_)
            have e6 := blk_below e6 hHeld
            have hbr := hbr.trans (hHeld.mono hbr.size)
            have fz := blk_frozen e6 6
            have xz := blk_cell e6 6
            have e6 := blk_put e6 6 (.int .u64 a6) (cs' := #[.int .i64 a0, .int .i64 a1, .int .i64 a2, .int .i64 a3, .int .i64 a4, .int .i64 a5, .int .u64 a6, .int .i64 x.f7]) rfl
            have hbr := below_set (j := 6) (v := .int .u64 a6) hbr (Nat.le_of_eq hB6.out.symm)
            refine skip_ (w1 := World.setCell w8 ⟨B6, 6, none⟩ (.int .u64 a6)) (by first | rfl | kernel_rfl) rfl ?_ ?_
            · go_simp
            refine hK.out _ _ ?_
            clear hK K fz xz
            generalize World.setCell w8 ⟨B6, 6, none⟩ (.int .u64 a6) = wz6 at e6 hbr ⊢
            refine pure_ (i := 10) (N := some 66) (v := ?_) (a' := ?_) #[true, true, true, true, true, true, true, true, true, true, true, false] rfl rfl (any_of HT_.out (by kernel_rfl)) (fun _ _ _ h => h) (Or.inl ⟨by first | rfl | kernel_rfl, ?_⟩) ?_ ?_
            rotate_left
            · intro w'
              go_simp
              with_reducible rfl
            rotate_left
            · simp only [Act.put, List.setIfInBounds_toArray, List.set_cons_zero, List.set_cons_succ, i64_w, i32_w]
              rfl
            refine last_ (i := 11) (N := none) #[true, true, true, true, true, true, true, true, true, true, true, true] rfl rfl (one_of HT_.out (by kernel_rfl)) (by decide) (fun K hK => ?_)
            have fz := blk_frozen e6 7
            have xz := blk_cell e6 7
            have e6 := blk_put e6 7 (.int .i64 a7) (cs' := #[.int .i64 a0, .int .i64 a1, .int .i64 a2, .int .i64 a3, .int .i64 a4, .int .i64 a5, .int .u64 a6, .int .i64 a7]) rfl
            have hbr := below_set (j := 7) (v := .int .i64 a7) hbr (Nat.le_of_eq hB6.out.symm)
            refine skip_ (w1 := World.setCell wz6 ⟨B6, 7, none⟩ (.int .i64 a7)) (by first | rfl | kernel_rfl) rfl ?_ ?_
            · go_simp
            refine hK.out _ _ ?_
            clear hK K fz xz
            generalize World.setCell wz6 ⟨B6, 7, none⟩ (.int .i64 a7) = wz7 at e6 hbr ⊢
            refine done_ (done_of HT_.out (by kernel_rfl)) ?_
            clear HT_ HW_
            clear lB hHeld x66 x67 hwr
            have HR := Kd.R_below hR hbr
            have HB := hB.trans (hbr.mono hB.size)
            have x60 := blk_cell e6 0
            have x61 := blk_cell e6 1
            have x62 := blk_cell e6 2
            have x63 := blk_cell e6 3
            have x64 := blk_cell e6 4
            have x65 := blk_cell e6 5
            have x66 := blk_cell e6 6
            have x67 := blk_cell e6 7
            clear et3 et8 T0 T1 T2 T3 T4 T5 T7
            clear hux hA hx hFX hmn hcut hCT hC hHeld hb8 hbr
            (try clear h3)
            (try clear h3b)
            (try clear h4)
            (try clear h4b)
            (try clear h5)
            (try clear h5b)
            go_wp2_with (first
              | (at_builtin; go_loud (refine push31 w.heap.size rfl (.tmp 67) (.tmp 69) rfl u3 ((T.take k).map FX) ⟨a0, a1, a2, a3, a4, a5, a6, a7⟩ rfl (by first | rfl | (go_simp; done) | (go_simp; rfl)) HR HB HB.size (by have := hacc.out; omega) ?_; intro v3 w12 ho hb hg hat)))
            go_roundw
            case rel => exact ⟨k + 1, by first | rfl | go_num, by omega, by rw [htk.out, hfx.out]; exact ho, hb⟩
            case measure => simp [intOf]; omega
      · have h3b : (m3 == 0) = false := by simpa using h3
        have hfx : Aside0 (FX x = ⟨a0, a1, a2, a3, a4, a5, a6, a7⟩) := ⟨by obtain ⟨h0_, h1_, h2_, h3_, h4_, h5_, h6_, h7_, hm_⟩ := hA.out; rw [hFX.out]; unfold smallX; rw [← h0_, ← h1_, ← h2_, ← h3_, ← h4_, ← h5_, ← h6_, ← h7_, ← hm_, if_neg (fun h => h3 h.1)]⟩
        go_upto_region 11 with go_in
        clear f63
        generalize wq5 = wz at e6 hbr ⊢
        clear x60 x61 x62 x63 x64 x65 x66 x67
        have x66 := blk_cell e6 6
        have x67 := blk_cell e6 7
        have lB : B6 < wz.heap.size := blk_lt e6
        have hwr : wrap64 ((T.length : Int) + 1) = (T.length : Int) + 1 := wrap_in (by omega) (by omega)
        refine start_ (n := 12) (S := fun w' => Below wz.heap.size wz w') (ds := [9, 11]) #[false, false, false, false, false, false, false, false, false, false, false, false] (by kernel_rfl) rfl rfl (below_drew (Below.refl _ _)) (fun hHeld => ?_); refine with_tabW sm.tab11 sm.bits11 (fun HT_ HW_ => ?_)
        refine pure_ (i := 0) (N := some 57) (v := ?_) (a' := ?_) #[true, false, false, false, false, false, false, false, false, false, false, false] rfl rfl (any_of HT_.out (by kernel_rfl)) (fun _ _ _ h => h) (Or.inl ⟨by first | rfl | kernel_rfl, ?_⟩) ?_ ?_
        rotate_left
        · intro w'
          go_simp
          with_reducible rfl
        rotate_left
        · simp only [Act.put, List.setIfInBounds_toArray, List.set_cons_zero, List.set_cons_succ, i64_w, i32_w]
          rfl
        refine take_ (i := 1) (N := some 58) (v := ?_) (a' := ?_) #[true, true, false, false, false, false, false, false, false, false, false, false] rfl rfl (take_ofW HT_.out HW_.out (by kernel_rfl)) (fun _ _ _ h => h) (Or.inl ⟨by first | rfl | kernel_rfl, ?_⟩) hHeld ?_ ?_
        rotate_left
        · intro w' s0
          have zc := (s0.cell (by exact lB)).trans x66
          go_simp
          with_reducible rfl
        rotate_left
        · simp only [Act.put, List.setIfInBounds_toArray, List.set_cons_zero, List.set_cons_succ, i64_w, i32_w]
          rfl
        refine pure_ (i := 2) (N := some 59) (v := ?_) (a' := ?_) #[true, true, true, false, false, false, false, false, false, false, false, false] rfl rfl (any_of HT_.out (by kernel_rfl)) (fun _ _ _ h => h) (Or.inl ⟨by first | rfl | kernel_rfl, ?_⟩) ?_ ?_
        rotate_left
        · intro w'
          go_simp
          with_reducible rfl
        rotate_left
        · simp only [Act.put, List.setIfInBounds_toArray, List.set_cons_zero, List.set_cons_succ, i64_w, i32_w]
          rfl
        refine pure_ (i := 3) (N := some 60) (v := ?_) (a' := ?_) #[true, true, true, true, false, false, false, false, false, false, false, false] rfl rfl (any_of HT_.out (by kernel_rfl)) (fun _ _ _ h => h) (Or.inl ⟨by first | rfl | kernel_rfl, ?_⟩) ?_ ?_
        rotate_left
        · intro w'
          go_simp
          with_reducible rfl
        rotate_left
        · simp only [Act.put, List.setIfInBounds_toArray, List.set_cons_zero, List.set_cons_succ, i64_w, i32_w]
          rfl
        refine take_ (i := 4) (N := some 61) (v := ?_) (a' := ?_) #[true, true, true, true, true, false, false, false, false, false, false, false] rfl rfl (take_ofW HT_.out HW_.out (by kernel_rfl)) (fun _ _ _ h => h) (Or.inl ⟨by first | rfl | kernel_rfl, ?_⟩) hHeld ?_ ?_
        rotate_left
        · intro w' s0
          have zc := (s0.cell (by exact lB)).trans x67
          go_simp
          with_reducible rfl
        rotate_left
        · simp only [Act.put, List.setIfInBounds_toArray, List.set_cons_zero, List.set_cons_succ, i64_w, i32_w]
          rfl
        refine pure_ (i := 5) (N := some 62) (v := ?_) (a' := ?_) #[true, true, true, true, true, true, false, false, false, false, false, false] rfl rfl (any_of HT_.out (by kernel_rfl)) (fun _ _ _ h => h) (Or.inl ⟨by first | rfl | kernel_rfl, ?_⟩) ?_ ?_
        rotate_left
        · intro w'
          go_simp
          with_reducible rfl
        rotate_left
        · simp only [Act.put, List.setIfInBounds_toArray, List.set_cons_zero, List.set_cons_succ, i64_w, i32_w]
          rfl
        refine pure_ (i := 6) (N := some 63) (v := ?_) (a' := ?_) #[true, true, true, true, true, true, true, false, false, false, false, false] rfl rfl (any_of HT_.out (by kernel_rfl)) (fun _ _ _ h => h) (Or.inl ⟨by first | rfl | kernel_rfl, ?_⟩) ?_ ?_
        rotate_left
        · intro w'
          go_simp
          (try simp only [i64_w, hwr])
          with_reducible rfl
        rotate_left
        · simp only [Act.put, List.setIfInBounds_toArray, List.set_cons_zero, List.set_cons_succ, i64_w, i32_w]
          rfl
        refine pure_ (i := 8) (N := some 65) (v := ?_) (a' := ?_) #[true, true, true, true, true, true, true, false, true, false, false, false] rfl rfl (any_of HT_.out (by kernel_rfl)) (fun _ _ _ h => h) (Or.inl ⟨by first | rfl | kernel_rfl, ?_⟩) ?_ ?_
        rotate_left
        · intro w'
          go_simp
          with_reducible rfl
        rotate_left
        · simp only [Act.put, List.setIfInBounds_toArray, List.set_cons_zero, List.set_cons_succ, i64_w, i32_w]
          rfl
        refine one_ (i := 7) (N := some 64) #[true, true, true, true, true, true, true, true, true, false, false, false] rfl rfl (one_of HT_.out (by kernel_rfl)) (by decide) (fun K hK => ?_)
        refine goes_ Try.func16 (by kernel_rfl) rfl #[.int .i64 x.f7, .int .i64 ((T.length : Int) + 1)] (by first | rfl | kernel_rfl) rfl rfl (by first | rfl | kernel_rfl) ?_
        refine (T7 _).mono ?_
        rintro e w8 ⟨rfl, hb8⟩
        have hHeld := hHeld.trans (hb8.mono hHeld.size)
        refine ⟨_, rfl, hK.out _ _ hHeld (fun hHeld => ?_)⟩
        clear hK K
        refine norm_ (a' := ?_) ?_ ?_
        rotate_left
        · show Act.put _ (some 64) _ = _
          simp only [Act.put, List.setIfInBounds_toArray, List.set_cons_zero, List.set_cons_succ, i64_w, i32_w]
          rfl
        refine last_ (i := 9) (N := none) #[true, true, true, true, true, true, true, true, true, true, false, false] rfl rfl (one_of HT_.out (by kernel_rfl)) (by decide) (fun K hK => ?_)
        have e6 := blk_below e6 hHeld
        have hbr := hbr.trans (hHeld.mono hbr.size)
        have fz := blk_frozen e6 6
        have xz := blk_cell e6 6
        have e6 := blk_put e6 6 (.int .u64 a6) (cs' := #[.int .i64 a0, .int .i64 a1, .int .i64 a2, .int .i64 a3, .int .i64 a4, .int .i64 a5, .int .u64 a6, .int .i64 x.f7]) rfl
        have hbr := below_set (j := 6) (v := .int .u64 a6) hbr (Nat.le_of_eq hB6.out.symm)
        refine skip_ (w1 := World.setCell w8 ⟨B6, 6, none⟩ (.int .u64 a6)) (by first | rfl | kernel_rfl) rfl ?_ ?_
        · go_simp
        refine hK.out _ _ ?_
        clear hK K fz xz
        generalize World.setCell w8 ⟨B6, 6, none⟩ (.int .u64 a6) = wz6 at e6 hbr ⊢
        refine pure_ (i := 10) (N := some 66) (v := ?_) (a' := ?_) #[true, true, true, true, true, true, true, true, true, true, true, false] rfl rfl (any_of HT_.out (by kernel_rfl)) (fun _ _ _ h => h) (Or.inl ⟨by first | rfl | kernel_rfl, ?_⟩) ?_ ?_
        rotate_left
        · intro w'
          go_simp
          with_reducible rfl
        rotate_left
        · simp only [Act.put, List.setIfInBounds_toArray, List.set_cons_zero, List.set_cons_succ, i64_w, i32_w]
          rfl
        refine last_ (i := 11) (N := none) #[true, true, true, true, true, true, true, true, true, true, true, true] rfl rfl (one_of HT_.out (by kernel_rfl)) (by decide) (fun K hK => ?_)
        have fz := blk_frozen e6 7
        have xz := blk_cell e6 7
        have e6 := blk_put e6 7 (.int .i64 a7) (cs' := #[.int .i64 a0, .int .i64 a1, .int .i64 a2, .int .i64 a3, .int .i64 a4, .int .i64 a5, .int .u64 a6, .int .i64 a7]) rfl
        have hbr := below_set (j := 7) (v := .int .i64 a7) hbr (Nat.le_of_eq hB6.out.symm)
        refine skip_ (w1 := World.setCell wz6 ⟨B6, 7, none⟩ (.int .i64 a7)) (by first | rfl | kernel_rfl) rfl ?_ ?_
        · go_simp
        refine hK.out _ _ ?_
        clear hK K fz xz
        generalize World.setCell wz6 ⟨B6, 7, none⟩ (.int .i64 a7) = wz7 at e6 hbr ⊢
        refine done_ (done_of HT_.out (by kernel_rfl)) ?_
        clear HT_ HW_
        clear lB hHeld x66 x67 hwr
        have HR := Kd.R_below hR hbr
        have HB := hB.trans (hbr.mono hB.size)
        have x60 := blk_cell e6 0
        have x61 := blk_cell e6 1
        have x62 := blk_cell e6 2
        have x63 := blk_cell e6 3
        have x64 := blk_cell e6 4
        have x65 := blk_cell e6 5
        have x66 := blk_cell e6 6
        have x67 := blk_cell e6 7
        clear et3 et8 T0 T1 T2 T3 T4 T5 T7
        clear hux hA hx hFX hmn hcut hCT hC hHeld hb8 hbr
        (try clear h3)
        (try clear h3b)
        (try clear h4)
        (try clear h4b)
        (try clear h5)
        (try clear h5b)
        go_wp2_with (first
          | (at_builtin; go_loud (refine push31 w.heap.size rfl (.tmp 67) (.tmp 69) rfl u3 ((T.take k).map FX) ⟨a0, a1, a2, a3, a4, a5, a6, a7⟩ rfl (by first | rfl | (go_simp; done) | (go_simp; rfl)) HR HB HB.size (by have := hacc.out; omega) ?_; intro v3 w12 ho hb hg hat)))
        go_roundw
        case rel => exact ⟨k + 1, by first | rfl | go_num, by omega, by rw [htk.out, hfx.out]; exact ho, hb⟩
        case measure => simp [intOf]; omega
    · obtain rfl : k = T.length := by omega
      rw [List.take_length, hFX.out] at hR
      have hlen : (T.map (smallX T.length)).length ≤ 30 := by rw [List.length_map]; omega
      go_wp2_with (first
        | (at_builtin; go_loud (refine push31 w.heap.size rfl (.tmp 72) (.tmp 74) rfl u3 (T.map (smallX T.length)) haltX rfl (by first | (go_simp; done) | (go_simp; rfl)) hR hB hB.size (by omega) ?_; intro v3 w12 ho hb hg hat)))
      go_ret
      exact ⟨_, rfl, ho, hb⟩
end Go.Proofs.Ytpibifgllbfgmaa.Pure
