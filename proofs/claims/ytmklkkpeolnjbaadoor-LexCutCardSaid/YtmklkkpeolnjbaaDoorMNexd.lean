/-
The law's next at a digit. Conditions: as each theorem states them.
-/
import Derived.Test.YtmklkkpeolnjbaaDoorMNext
import Derived.RegionTactic
import Derived.ChangeAlike
import Derived.BigRegion
import Derived.Deep.RegionWith
set_option linter.unusedVariables false
set_option linter.unusedSimpArgs false
namespace Go.Proofs.YtmklkkpeolnjbaaDoor.Lex
open Go.RowKit Go.Proofs.YtmklkkpeolnjbaaDoorW.PrintWords Go.Proofs.YtmklkkpeolnjbaaDoorW.PrintLast Go.Proofs.YtmklkkpeolnjbaaDoorW.PrintMore
open Go.Proofs.YtmklkkpeolnjbaaDoor.Kit Go.ChangeMaps Go.MapKept
open Go.Proofs.YtmklkkpeolnjbaaDoor.PLexCut
def next13.T13 : Bool × List (List Nat × List Nat) := (true, [([], []), ([], []), ([], []), ([0, 1, 2], [0, 1, 2]), ([], []), ([], []), ([3, 4, 5], [3, 4, 5]), ([], []), ([7], [7]), ([8], [8]), ([8], [8]), ([10, 8], [8, 10]), ([9, 11, 8], [8, 9, 11]), ([12, 8, 8], [8, 12]), ([13], [13]), ([13], [13]), ([14, 15, 13], [13, 14, 15]), ([16, 13, 13], [13, 16]), ([17, 13], [13, 17]), ([13, 18, 8], [8, 13, 18]), ([8, 19], [8, 19]), ([6, 17, 0, 1, 2, 3, 4, 5, 6], [6]), ([20, 21, 0, 1, 2, 3, 4, 5, 6, 7, 8, 9, 10, 11, 12, 13, 14, 15, 16, 17, 18, 19, 20, 21], [20])])
def next13.B13 : List Nat := [0, 0, 0, 7, 0, 0, 63, 0, 128, 384, 384, 1408, 3968, 8064, 16256, 16256, 65408, 130944, 262016, 524160, 1048448, 262143, 4194303]
theorem next13.tab13 : rtab .any (opsOf Tryd.f12 13) = next13.T13 := by kernel_rfl
theorem next13.bits13 : waitsOk next13.T13.2 next13.B13 = true := by kernel_rfl
set_option maxHeartbeats 8000000 in
set_option maxRecDepth 100000 in
theorem next_digit (s : ByteArray) (i : Nat) (w : World) (hs : s.size ≤ 1000000) (hi : i < s.size) (hl : isLetter (bt s (i : Int)) = false) (hd : isDigit (bt s (i : Int)) = true) : Calls Tryd.prog 12 #[.string s, .int .i64 (i : Int)] w (NextP w s i) := by
  have hst : stepS s i = if (numS (s.extract i (runS isDigit s i))).2 = false ∨ (runS isDigit s i < s.size ∧ isLetter (bt s (runS isDigit s i : Int)) = true) then .bad
    else .tok ⟨3, s.extract i (runS isDigit s i), (numS (s.extract i (runS isDigit s i))).1, i⟩ (runS isDigit s i) := by
    have hn := digit_no hd
    unfold stepS
    rw [if_neg (by rw [hn.1]; decide), if_neg hn.2.1, if_neg (by rw [hl]; decide), if_pos hd]
  have hlt := runS_lt (p := isDigit) hi hd
  have hon := runS_on (p := isDigit) hi hd
  have hall : ∀ k : Nat, k < (s.extract i (runS isDigit s i)).size → isDigit (bt (s.extract i (runS isDigit s i)) (k : Int)) = true := by
    intro k hk
    have hsz : (s.extract i (runS isDigit s i)).size = runS isDigit s i - i := by rw [ByteArray.size_extract]; omega
    rw [bt_ext s i (runS isDigit s i) k hlt.2 (by omega)]
    exact runS_in _ i rfl (by omega) (i + k) (by omega) (by omega)
  have hii : (i : Int) < (s.size : Int) := by omega
  have hi0 : (0 : Int) ≤ (i : Int) := by omega
  have hbt : ∀ h : i < s.size, ((s[i]'h).toNat : Int) = bt s (i : Int) := fun h => bt_at s (i : Int) (by simpa using h)
  have hn1 := nxtL i (by omega)
  have TL := fun wx : World => letterL.calls (bt s (i : Int)) wx
  have TD := fun wx : World => digitL.calls (bt s (i : Int)) wx
  rw [hl] at TL
  rw [hd] at TD
  generalize hj : runS isDigit s i = j at hst hlt hon hall
  have TV := fun wx : World => valueL.calls (s.extract i j) wx (by rw [ByteArray.size_extract]; omega) hall
  clear hall
  obtain ⟨T, hT⟩ : ∃ T, T = s.extract i j := ⟨_, rfl⟩
  generalize numS (s.extract i j) = nn at hst TV
  rw [← hT] at hst
  obtain ⟨nv, nb⟩ := nn
  simp only at hst TV
  replace hj := Aside0.mk hj
  replace hst := Aside0.mk hst
  replace TV := Aside0.mk TV
  replace hT := Aside0.mk hT
  generalize bt s (i : Int) = c at hbt TL TD
  go_enter Tryd.func12, Tryd.ntmps12
  go_upto_region 1 with go_in
  have eG := heap_alloc_new w (Obj.cells zCells 32 (0, 0))
  have hB1 : Below w.heap.size w (w.alloc (Obj.cells zCells 32 (0, 0))) := below_alloc (Below.refl _ _) _
  unfold zCells at hB1 eG
  generalize w.alloc (Obj.cells #[.int .i64 0, .string ⟨#[]⟩, .int .u64 0, .int .i64 0] 32 (0, 0)) = w1 at *
  generalize hGe : w.heap.size = G at eG ⊢
  have hGG : w.heap.size ≤ G := by omega
  clear hGe
  go_wp2_with (first
    | (go_at_call 27; refine (TL w1).mono ?_; rintro e w2 ⟨rfl, hb2⟩; have eG := (hb2.block G (blk_lt eG)).trans eG; have hB1 := hB1.trans (hb2.mono hB1.size))
    | (go_at_call 28; refine (TD w2).mono ?_; rintro e w3 ⟨rfl, hb3⟩; have eG := (hb3.block G (blk_lt eG)).trans eG; have hB1 := hB1.trans (hb3.mono hB1.size)))
  go_loopw [7] (fun v7 wr => ∃ q : Nat, v7 = .int .i64 q ∧ i < q ∧ q ≤ s.size ∧ Aside0 (runS isDigit s q = j) ∧ wr.heap[G]? = some (Obj.cells #[.int .i64 0, .string ⟨#[]⟩, .int .u64 0, .int .i64 0] 32 (0, 0)) ∧ Below w.heap.size w wr) (fun v7 _ => s.size - (intOf v7).toNat)
  case atStart => exact ⟨i + 1, by first | rfl | go_num, by omega, by omega, ⟨hon.symm⟩, eG, hB1⟩
  case round =>
    clear eG hB1 hon hb2 hb3 TL TD hbt hn1
    obtain ⟨q, rfl, hiq, hqz, hrun, eG, hB1⟩ := hrel
    by_cases hqs : q < s.size
    · have hqi : (q : Int) < (s.size : Int) := by omega
      have hq0 : (0 : Int) ≤ (q : Int) := by omega
      have hbt : ∀ h : q < s.size, ((s[q]'h).toNat : Int) = bt s (q : Int) := fun h => bt_at s (q : Int) (by simpa using h)
      have TD := digitL.calls (bt s (q : Int)) wr
      replace hrun := hrun.out
      cases hdq : isDigit (bt s (q : Int)) with
      | true =>
        rw [hdq] at TD
        have hr2 := Aside0.mk ((runS_on hqs hdq).symm.trans hrun)
        clear hrun hdq
        generalize bt s (q : Int) = d at hbt TD
        go_wp2_with (first
          | (go_at_call 28; refine TD.mono ?_; rintro e w4 ⟨rfl, hb4⟩; have eG := (hb4.block G (blk_lt eG)).trans eG; have hB1 := hB1.trans (hb4.mono hB1.size)))
        go_roundw
        case rel => exact ⟨q + 1, by first | rfl | go_num, by omega, by omega, hr2, eG, hB1⟩
        case measure => simp [intOf]; omega
      | false =>
        rw [hdq] at TD
        obtain rfl : q = j := (runS_off (by rintro ⟨_, h⟩; rw [hdq] at h; cases h)).symm.trans hrun
        have TJ := fun wx : World => letterL.calls (bt s (q : Int)) wx
        clear hrun hdq
        have hiqi : (i : Int) ≤ (q : Int) := by omega
        have hqsi : (q : Int) ≤ (s.size : Int) := by omega
        have hqne : ((q : Int) == (s.size : Int)) = false := beq_eq_false_iff_ne.mpr (by omega)
        have hst := hst.out
        rw [hT.out] at hst
        have hst : stepS s i = if nb = false ∨ isLetter (bt s (q : Int)) = true then .bad else .tok ⟨3, s.extract i q, nv, i⟩ q := by
          rw [hst]
          by_cases hx : nb = false ∨ isLetter (bt s (q : Int)) = true
          · rw [if_pos hx, if_pos (hx.imp id fun h => ⟨hqs, h⟩)]
          · rw [if_neg hx, if_neg (fun h => hx (h.imp id fun h => h.2))]
        generalize bt s (q : Int) = d at hbt TD TJ hst
        replace hst := Aside0.mk hst
        go_upto_region 13 with (first
          | (go_at_call 28; refine TD.mono ?_; rintro e w4 ⟨rfl, hb4⟩; have eG := (hb4.block G (blk_lt eG)).trans eG; have hB1 := hB1.trans (hb4.mono hB1.size))
          | (go_at_call 29; refine (TV.out w4).mono ?_; rintro e w5 ⟨rfl, hb5⟩; have eG := (hb5.block G (blk_lt eG)).trans eG; have hB1 := hB1.trans (hb5.mono hB1.size))
          | go_in)
        clear TD TV
        have x0 := (blk_cell eG 0).trans rfl
        have x1 := (blk_cell eG 1).trans rfl
        have x2 := (blk_cell eG 2).trans rfl
        have x3 := (blk_cell eG 3).trans rfl
        have f0 : ∀ k, (w5).frozen? ⟨G, k, none⟩ = false := fun k => by simp [World.frozen?, eG]
        cases nb with
        | false =>
          have hst := hst.out
          rw [if_pos (.inl rfl)] at hst
          replace hst := Aside0.mk hst
          go_region
          all_goals go_wp2
          all_goals refine bodyPost_ret (results_ct rfl _ _ G 32 #[.int .i64 3, .string (s.extract i q), .int .u64 nv, .int .i64 (i : Int)] (0, 0) _ rfl (by first | exact blk_drew (put4 eG) | exact put4 eG) Tryd.underlying32 rfl (by kernel_rfl)) rfl ?_
          all_goals exact ⟨by first | exact (put4_below hB1 hGG).drew | exact put4_below hB1 hGG, by rw [hst.out]; first | rfl | exact ⟨_, _, _, _, rfl⟩⟩
        | true =>
          have eG7 := blk_drew eG
          have hB7 := hB1.drew
          clear x0 x1 x2 x3 f0
          cases d2 : isLetter d with
          | true =>
            rw [d2] at TJ
            have hst := hst.out
            rw [if_pos (.inr d2)] at hst
            replace hst := Aside0.mk hst
            refine start_ (n := 23) (S := fun w' => True) (ds := []) #[false, false, false, false, false, false, false, false, false, false, false, false, false, false, false, false, false, false, false, false, false, false, false] (by kernel_rfl) rfl rfl trivial (fun hHeld => ?_); refine with_tabW next13.tab13 next13.bits13 (fun HT_ HW_ => ?_)
            generalize w5.drew = w7 at eG7 hB7 hHeld ⊢
            refine pure_ (i := 0) (N := some 71) (v := ?_) (a' := ?_) #[true, false, false, false, false, false, false, false, false, false, false, false, false, false, false, false, false, false, false, false, false, false, false] rfl rfl (any_of HT_.out (by kernel_rfl)) (fun _ _ _ h => h) (Or.inl ⟨by rfl, ?_⟩) ?_ ?_
            rotate_left
            · intro w'
              go_simp
              with_reducible rfl
            rotate_left
            · simp only [Act.put, List.setIfInBounds_toArray, List.set_cons_zero, List.set_cons_succ, i64_w, i32_w]
              rfl
            refine pure_ (i := 1) (N := some 72) (v := ?_) (a' := ?_) #[true, true, false, false, false, false, false, false, false, false, false, false, false, false, false, false, false, false, false, false, false, false, false] rfl rfl (any_of HT_.out (by kernel_rfl)) (fun _ _ _ h => h) (Or.inl ⟨by rfl, ?_⟩) ?_ ?_
            rotate_left
            · intro w'
              go_simp
              with_reducible rfl
            rotate_left
            · simp only [Act.put, List.setIfInBounds_toArray, List.set_cons_zero, List.set_cons_succ, i64_w, i32_w]
              rfl
            refine pure_ (i := 2) (N := some 73) (v := ?_) (a' := ?_) #[true, true, true, false, false, false, false, false, false, false, false, false, false, false, false, false, false, false, false, false, false, false, false] rfl rfl (any_of HT_.out (by kernel_rfl)) (fun _ _ _ h => h) (Or.inl ⟨by rfl, ?_⟩) ?_ ?_
            rotate_left
            · intro w'
              go_simp
              with_reducible rfl
            rotate_left
            · simp only [Act.put, List.setIfInBounds_toArray, List.set_cons_zero, List.set_cons_succ, i64_w, i32_w]
              rfl
            refine pure_ (i := 3) (N := some 74) (v := ?_) (a' := ?_) #[true, true, true, true, false, false, false, false, false, false, false, false, false, false, false, false, false, false, false, false, false, false, false] rfl rfl (any_of HT_.out (by kernel_rfl)) (fun _ _ _ h => h) (Or.inl ⟨by rfl, ?_⟩) ?_ ?_
            rotate_left
            · intro w'
              go_simp
              with_reducible rfl
            rotate_left
            · simp only [Act.put, List.setIfInBounds_toArray, List.set_cons_zero, List.set_cons_succ, i64_w, i32_w]
              rfl
            refine pure_ (i := 4) (N := some 75) (v := ?_) (a' := ?_) #[true, true, true, true, true, false, false, false, false, false, false, false, false, false, false, false, false, false, false, false, false, false, false] rfl rfl (any_of HT_.out (by kernel_rfl)) (fun _ _ _ h => h) (Or.inl ⟨by rfl, ?_⟩) ?_ ?_
            rotate_left
            · intro w'
              go_simp
              with_reducible rfl
            rotate_left
            · simp only [Act.put, List.setIfInBounds_toArray, List.set_cons_zero, List.set_cons_succ, i64_w, i32_w]
              rfl
            refine pure_ (i := 5) (N := some 76) (v := ?_) (a' := ?_) #[true, true, true, true, true, true, false, false, false, false, false, false, false, false, false, false, false, false, false, false, false, false, false] rfl rfl (any_of HT_.out (by kernel_rfl)) (fun _ _ _ h => h) (Or.inl ⟨by rfl, ?_⟩) ?_ ?_
            rotate_left
            · intro w'
              go_simp
              with_reducible rfl
            rotate_left
            · simp only [Act.put, List.setIfInBounds_toArray, List.set_cons_zero, List.set_cons_succ, i64_w, i32_w]
              rfl
            refine pure_ (i := 6) (N := some 77) (v := ?_) (a' := ?_) #[true, true, true, true, true, true, true, false, false, false, false, false, false, false, false, false, false, false, false, false, false, false, false] rfl rfl (any_of HT_.out (by kernel_rfl)) (fun _ _ _ h => h) (Or.inl ⟨by rfl, ?_⟩) ?_ ?_
            rotate_left
            · intro w'
              go_simp
              with_reducible rfl
            rotate_left
            · simp only [Act.put, List.setIfInBounds_toArray, List.set_cons_zero, List.set_cons_succ, i64_w, i32_w]
              rfl
            refine pure_ (i := 7) (N := some 78) (v := ?_) (a' := ?_) #[true, true, true, true, true, true, true, true, false, false, false, false, false, false, false, false, false, false, false, false, false, false, false] rfl rfl (any_of HT_.out (by kernel_rfl)) (fun _ _ _ h => h) (Or.inl ⟨by rfl, ?_⟩) ?_ ?_
            rotate_left
            · intro w'
              go_simp
              with_reducible rfl
            rotate_left
            · simp only [Act.put, List.setIfInBounds_toArray, List.set_cons_zero, List.set_cons_succ, i64_w, i32_w]
              rfl
            refine pure_ (i := 8) (N := some 79) (v := ?_) (a' := ?_) #[true, true, true, true, true, true, true, true, true, false, false, false, false, false, false, false, false, false, false, false, false, false, false] rfl rfl (any_of HT_.out (by kernel_rfl)) (fun _ _ _ h => h) (Or.inl ⟨by rfl, ?_⟩) ?_ ?_
            rotate_left
            · intro w'
              go_simp
              with_reducible rfl
            rotate_left
            · simp only [Act.put, List.setIfInBounds_toArray, List.set_cons_zero, List.set_cons_succ, i64_w, i32_w]
              rfl
            refine pure_ (i := 9) (N := some 80) (v := ?_) (a' := ?_) #[true, true, true, true, true, true, true, true, true, true, false, false, false, false, false, false, false, false, false, false, false, false, false] rfl rfl (any_of HT_.out (by kernel_rfl)) (fun _ _ _ h => h) (Or.inl ⟨by rfl, ?_⟩) ?_ ?_
            rotate_left
            · intro w'
              go_simp
              with_reducible rfl
            rotate_left
            · simp only [Act.put, List.setIfInBounds_toArray, List.set_cons_zero, List.set_cons_succ, i64_w, i32_w]
              rfl
            refine pure_ (i := 10) (N := some 81) (v := ?_) (a' := ?_) #[true, true, true, true, true, true, true, true, true, true, true, false, false, false, false, false, false, false, false, false, false, false, false] rfl rfl (any_of HT_.out (by kernel_rfl)) (fun _ _ _ h => h) (Or.inl ⟨by rfl, ?_⟩) ?_ ?_
            rotate_left
            · intro w'
              go_simp
              with_reducible rfl
            rotate_left
            · simp only [Act.put, List.setIfInBounds_toArray, List.set_cons_zero, List.set_cons_succ, i64_w, i32_w]
              rfl
            refine pure_ (i := 11) (N := some 82) (v := ?_) (a' := ?_) #[true, true, true, true, true, true, true, true, true, true, true, true, false, false, false, false, false, false, false, false, false, false, false] rfl rfl (any_of HT_.out (by kernel_rfl)) (fun _ _ _ h => h) (Or.inl ⟨by rfl, ?_⟩) ?_ ?_
            rotate_left
            · intro w'
              go_simp
              with_reducible rfl
            rotate_left
            · simp only [Act.put, List.setIfInBounds_toArray, List.set_cons_zero, List.set_cons_succ, i64_w, i32_w]
              rfl
            refine pure_ (i := 12) (N := some 83) (v := ?_) (a' := ?_) #[true, true, true, true, true, true, true, true, true, true, true, true, true, false, false, false, false, false, false, false, false, false, false] rfl rfl (any_of HT_.out (by kernel_rfl)) (fun _ _ _ h => h) (Or.inl ⟨by rfl, ?_⟩) ?_ ?_
            rotate_left
            · intro w'
              go_simp
              with_reducible rfl
            rotate_left
            · simp only [Act.put, List.setIfInBounds_toArray, List.set_cons_zero, List.set_cons_succ, i64_w, i32_w]
              rfl
            refine pure_ (i := 13) (N := some 84) (v := ?_) (a' := ?_) #[true, true, true, true, true, true, true, true, true, true, true, true, true, true, false, false, false, false, false, false, false, false, false] rfl rfl (any_of HT_.out (by kernel_rfl)) (fun _ _ _ h => h) (Or.inl ⟨by rfl, ?_⟩) ?_ ?_
            rotate_left
            · intro w'
              go_simp
              with_reducible rfl
            rotate_left
            · simp only [Act.put, List.setIfInBounds_toArray, List.set_cons_zero, List.set_cons_succ, i64_w, i32_w]
              rfl
            refine pure_ (i := 14) (N := some 85) (v := ?_) (a' := ?_) #[true, true, true, true, true, true, true, true, true, true, true, true, true, true, true, false, false, false, false, false, false, false, false] rfl rfl (any_of HT_.out (by kernel_rfl)) (fun _ _ _ h => h) (Or.inl ⟨by rfl, ?_⟩) ?_ ?_
            rotate_left
            · intro w'
              go_simp
              with_reducible rfl
            rotate_left
            · simp only [Act.put, List.setIfInBounds_toArray, List.set_cons_zero, List.set_cons_succ, i64_w, i32_w]
              rfl
            refine pure_ (i := 15) (N := some 86) (v := ?_) (a' := ?_) #[true, true, true, true, true, true, true, true, true, true, true, true, true, true, true, true, false, false, false, false, false, false, false] rfl rfl (any_of HT_.out (by kernel_rfl)) (fun _ _ _ h => h) (Or.inl ⟨by rfl, ?_⟩) ?_ ?_
            rotate_left
            · intro w'
              go_simp
              with_reducible rfl
            rotate_left
            · simp only [Act.put, List.setIfInBounds_toArray, List.set_cons_zero, List.set_cons_succ, i64_w, i32_w]
              rfl
            refine take_ (i := 16) (N := some 87) (v := ?_) (a' := ?_) #[true, true, true, true, true, true, true, true, true, true, true, true, true, true, true, true, true, false, false, false, false, false, false] rfl rfl (take_ofW HT_.out HW_.out (by kernel_rfl)) (fun _ _ _ h => h) (Or.inl ⟨by rfl, ?_⟩) hHeld ?_ ?_
            rotate_left
            · intro w' _
              go_simp
              with_reducible rfl
            rotate_left
            · simp only [Act.put, List.setIfInBounds_toArray, List.set_cons_zero, List.set_cons_succ, i64_w, i32_w]
              rfl
            refine one_ (i := 17) (N := some 88) #[true, true, true, true, true, true, true, true, true, true, true, true, true, true, true, true, true, true, false, false, false, false, false] rfl rfl (one_of HT_.out (by kernel_rfl)) (by decide) (fun K hK => ?_)
            refine goes_ Tryd.func27 (by kernel_rfl) rfl #[.int .u8 d] (by rfl) rfl rfl (by (try simp only [List.map_toArray, List.map_cons, List.map_nil]); first | done | rfl) ?_
            refine (TJ w7).mono ?_
            rintro e w8 ⟨rfl, hb8⟩
            have eG8 := (hb8.block G (blk_lt eG7)).trans eG7
            have hB8 := hB7.trans (hb8.mono hB7.size)
            refine ⟨_, rfl, ?_⟩
            refine hK.out _ _ trivial (fun hHeld => ?_)
            clear hK K
            refine norm_ (a' := ?_) ?_ ?_
            rotate_left
            · show Act.put _ (some 88) _ = _
              simp only [Act.put, List.setIfInBounds_toArray, List.set_cons_zero, List.set_cons_succ, i64_w, i32_w]
              rfl
            refine pure_ (i := 18) (N := some 89) (v := ?_) (a' := ?_) #[true, true, true, true, true, true, true, true, true, true, true, true, true, true, true, true, true, true, true, false, false, false, false] rfl rfl (any_of HT_.out (by kernel_rfl)) (fun _ _ _ h => h) (Or.inl ⟨by rfl, ?_⟩) ?_ ?_
            rotate_left
            · intro w'
              go_simp
              with_reducible rfl
            rotate_left
            · simp only [Act.put, List.setIfInBounds_toArray, List.set_cons_zero, List.set_cons_succ, i64_w, i32_w]
              rfl
            refine pure_ (i := 19) (N := some 90) (v := ?_) (a' := ?_) #[true, true, true, true, true, true, true, true, true, true, true, true, true, true, true, true, true, true, true, true, false, false, false] rfl rfl (any_of HT_.out (by kernel_rfl)) (fun _ _ _ h => h) (Or.inl ⟨by rfl, ?_⟩) ?_ ?_
            rotate_left
            · intro w'
              go_simp
              with_reducible rfl
            rotate_left
            · simp only [Act.put, List.setIfInBounds_toArray, List.set_cons_zero, List.set_cons_succ, i64_w, i32_w]
              rfl
            refine pure_ (i := 20) (N := some 91) (v := ?_) (a' := ?_) #[true, true, true, true, true, true, true, true, true, true, true, true, true, true, true, true, true, true, true, true, true, false, false] rfl rfl (any_of HT_.out (by kernel_rfl)) (fun _ _ _ h => h) (Or.inl ⟨by rfl, ?_⟩) ?_ ?_
            rotate_left
            · intro w'
              go_simp
              with_reducible rfl
            rotate_left
            · simp only [Act.put, List.setIfInBounds_toArray, List.set_cons_zero, List.set_cons_succ, i64_w, i32_w]
              rfl
            refine one_ (i := 21) (N := none) #[true, true, true, true, true, true, true, true, true, true, true, true, true, true, true, true, true, true, true, true, true, true, false] rfl rfl (one_of HT_.out (by kernel_rfl)) (by decide) (fun K hK => ?_)
            have x0 : w8.cell? ⟨G, 0, none⟩ = some (.int .i64 0) := (blk_cell eG8 0).trans rfl
            have g0 := blk_frozen eG8 0
            have x1 : w8.cell? ⟨G, 1, none⟩ = some (.string (⟨#[]⟩ : ByteArray)) := (blk_cell eG8 1).trans rfl
            have g1 := blk_frozen eG8 1
            have x2 : w8.cell? ⟨G, 2, none⟩ = some (.int .u64 0) := (blk_cell eG8 2).trans rfl
            have g2 := blk_frozen eG8 2
            have x3 : w8.cell? ⟨G, 3, none⟩ = some (.int .i64 0) := (blk_cell eG8 3).trans rfl
            have g3 := blk_frozen eG8 3
            refine skip_ (w1 := ?_) (by rfl) rfl ?_ ?_
            rotate_left
            · go_simp
              rfl
            refine hK.out _ _ trivial (fun hHeld => ?_)
            clear hK K
            refine pure_ (i := 22) (N := some 5) (v := ?_) (a' := ?_) #[true, true, true, true, true, true, true, true, true, true, true, true, true, true, true, true, true, true, true, true, true, true, true] rfl rfl (any_of HT_.out (by kernel_rfl)) (fun _ _ _ h => h) (Or.inl ⟨by rfl, ?_⟩) ?_ ?_
            rotate_left
            · intro w'
              go_simp
              with_reducible rfl
            rotate_left
            · simp only [Act.put, List.setIfInBounds_toArray, List.set_cons_zero, List.set_cons_succ, i64_w, i32_w]
              rfl
            refine done_ (done_of HT_.out (by kernel_rfl)) ?_
            go_wp2
            refine bodyPost_ret (results_ct rfl _ _ G 32 #[.int .i64 3, .string (s.extract i q), .int .u64 nv, .int .i64 (i : Int)] (0, 0) _ rfl (by first | exact blk_drew (put4 eG8) | exact put4 eG8) Tryd.underlying32 rfl (by kernel_rfl)) rfl ?_
            exact ⟨by first | exact (put4_below hB8 hGG).drew | exact put4_below hB8 hGG, by rw [hst.out]; first | rfl | exact ⟨_, _, _, _, rfl⟩⟩
          | false =>
            rw [d2] at TJ
            have hst := hst.out
            rw [if_neg (by rintro (h | h); exact Bool.noConfusion h; rw [d2] at h; exact Bool.noConfusion h)] at hst
            replace hst := Aside0.mk hst
            refine start_ (n := 23) (S := fun w' => True) (ds := []) #[false, false, false, false, false, false, false, false, false, false, false, false, false, false, false, false, false, false, false, false, false, false, false] (by kernel_rfl) rfl rfl trivial (fun hHeld => ?_); refine with_tabW next13.tab13 next13.bits13 (fun HT_ HW_ => ?_)
            generalize w5.drew = w7 at eG7 hB7 hHeld ⊢
            refine pure_ (i := 0) (N := some 71) (v := ?_) (a' := ?_) #[true, false, false, false, false, false, false, false, false, false, false, false, false, false, false, false, false, false, false, false, false, false, false] rfl rfl (any_of HT_.out (by kernel_rfl)) (fun _ _ _ h => h) (Or.inl ⟨by rfl, ?_⟩) ?_ ?_
            rotate_left
            · intro w'
              go_simp
              with_reducible rfl
            rotate_left
            · simp only [Act.put, List.setIfInBounds_toArray, List.set_cons_zero, List.set_cons_succ, i64_w, i32_w]
              rfl
            refine pure_ (i := 1) (N := some 72) (v := ?_) (a' := ?_) #[true, true, false, false, false, false, false, false, false, false, false, false, false, false, false, false, false, false, false, false, false, false, false] rfl rfl (any_of HT_.out (by kernel_rfl)) (fun _ _ _ h => h) (Or.inl ⟨by rfl, ?_⟩) ?_ ?_
            rotate_left
            · intro w'
              go_simp
              with_reducible rfl
            rotate_left
            · simp only [Act.put, List.setIfInBounds_toArray, List.set_cons_zero, List.set_cons_succ, i64_w, i32_w]
              rfl
            refine pure_ (i := 2) (N := some 73) (v := ?_) (a' := ?_) #[true, true, true, false, false, false, false, false, false, false, false, false, false, false, false, false, false, false, false, false, false, false, false] rfl rfl (any_of HT_.out (by kernel_rfl)) (fun _ _ _ h => h) (Or.inl ⟨by rfl, ?_⟩) ?_ ?_
            rotate_left
            · intro w'
              go_simp
              with_reducible rfl
            rotate_left
            · simp only [Act.put, List.setIfInBounds_toArray, List.set_cons_zero, List.set_cons_succ, i64_w, i32_w]
              rfl
            refine pure_ (i := 3) (N := some 74) (v := ?_) (a' := ?_) #[true, true, true, true, false, false, false, false, false, false, false, false, false, false, false, false, false, false, false, false, false, false, false] rfl rfl (any_of HT_.out (by kernel_rfl)) (fun _ _ _ h => h) (Or.inl ⟨by rfl, ?_⟩) ?_ ?_
            rotate_left
            · intro w'
              go_simp
              with_reducible rfl
            rotate_left
            · simp only [Act.put, List.setIfInBounds_toArray, List.set_cons_zero, List.set_cons_succ, i64_w, i32_w]
              rfl
            refine pure_ (i := 4) (N := some 75) (v := ?_) (a' := ?_) #[true, true, true, true, true, false, false, false, false, false, false, false, false, false, false, false, false, false, false, false, false, false, false] rfl rfl (any_of HT_.out (by kernel_rfl)) (fun _ _ _ h => h) (Or.inl ⟨by rfl, ?_⟩) ?_ ?_
            rotate_left
            · intro w'
              go_simp
              with_reducible rfl
            rotate_left
            · simp only [Act.put, List.setIfInBounds_toArray, List.set_cons_zero, List.set_cons_succ, i64_w, i32_w]
              rfl
            refine pure_ (i := 5) (N := some 76) (v := ?_) (a' := ?_) #[true, true, true, true, true, true, false, false, false, false, false, false, false, false, false, false, false, false, false, false, false, false, false] rfl rfl (any_of HT_.out (by kernel_rfl)) (fun _ _ _ h => h) (Or.inl ⟨by rfl, ?_⟩) ?_ ?_
            rotate_left
            · intro w'
              go_simp
              with_reducible rfl
            rotate_left
            · simp only [Act.put, List.setIfInBounds_toArray, List.set_cons_zero, List.set_cons_succ, i64_w, i32_w]
              rfl
            refine pure_ (i := 6) (N := some 77) (v := ?_) (a' := ?_) #[true, true, true, true, true, true, true, false, false, false, false, false, false, false, false, false, false, false, false, false, false, false, false] rfl rfl (any_of HT_.out (by kernel_rfl)) (fun _ _ _ h => h) (Or.inl ⟨by rfl, ?_⟩) ?_ ?_
            rotate_left
            · intro w'
              go_simp
              with_reducible rfl
            rotate_left
            · simp only [Act.put, List.setIfInBounds_toArray, List.set_cons_zero, List.set_cons_succ, i64_w, i32_w]
              rfl
            refine pure_ (i := 7) (N := some 78) (v := ?_) (a' := ?_) #[true, true, true, true, true, true, true, true, false, false, false, false, false, false, false, false, false, false, false, false, false, false, false] rfl rfl (any_of HT_.out (by kernel_rfl)) (fun _ _ _ h => h) (Or.inl ⟨by rfl, ?_⟩) ?_ ?_
            rotate_left
            · intro w'
              go_simp
              with_reducible rfl
            rotate_left
            · simp only [Act.put, List.setIfInBounds_toArray, List.set_cons_zero, List.set_cons_succ, i64_w, i32_w]
              rfl
            refine pure_ (i := 8) (N := some 79) (v := ?_) (a' := ?_) #[true, true, true, true, true, true, true, true, true, false, false, false, false, false, false, false, false, false, false, false, false, false, false] rfl rfl (any_of HT_.out (by kernel_rfl)) (fun _ _ _ h => h) (Or.inl ⟨by rfl, ?_⟩) ?_ ?_
            rotate_left
            · intro w'
              go_simp
              with_reducible rfl
            rotate_left
            · simp only [Act.put, List.setIfInBounds_toArray, List.set_cons_zero, List.set_cons_succ, i64_w, i32_w]
              rfl
            refine pure_ (i := 9) (N := some 80) (v := ?_) (a' := ?_) #[true, true, true, true, true, true, true, true, true, true, false, false, false, false, false, false, false, false, false, false, false, false, false] rfl rfl (any_of HT_.out (by kernel_rfl)) (fun _ _ _ h => h) (Or.inl ⟨by rfl, ?_⟩) ?_ ?_
            rotate_left
            · intro w'
              go_simp
              with_reducible rfl
            rotate_left
            · simp only [Act.put, List.setIfInBounds_toArray, List.set_cons_zero, List.set_cons_succ, i64_w, i32_w]
              rfl
            refine pure_ (i := 10) (N := some 81) (v := ?_) (a' := ?_) #[true, true, true, true, true, true, true, true, true, true, true, false, false, false, false, false, false, false, false, false, false, false, false] rfl rfl (any_of HT_.out (by kernel_rfl)) (fun _ _ _ h => h) (Or.inl ⟨by rfl, ?_⟩) ?_ ?_
            rotate_left
            · intro w'
              go_simp
              with_reducible rfl
            rotate_left
            · simp only [Act.put, List.setIfInBounds_toArray, List.set_cons_zero, List.set_cons_succ, i64_w, i32_w]
              rfl
            refine pure_ (i := 11) (N := some 82) (v := ?_) (a' := ?_) #[true, true, true, true, true, true, true, true, true, true, true, true, false, false, false, false, false, false, false, false, false, false, false] rfl rfl (any_of HT_.out (by kernel_rfl)) (fun _ _ _ h => h) (Or.inl ⟨by rfl, ?_⟩) ?_ ?_
            rotate_left
            · intro w'
              go_simp
              with_reducible rfl
            rotate_left
            · simp only [Act.put, List.setIfInBounds_toArray, List.set_cons_zero, List.set_cons_succ, i64_w, i32_w]
              rfl
            refine pure_ (i := 12) (N := some 83) (v := ?_) (a' := ?_) #[true, true, true, true, true, true, true, true, true, true, true, true, true, false, false, false, false, false, false, false, false, false, false] rfl rfl (any_of HT_.out (by kernel_rfl)) (fun _ _ _ h => h) (Or.inl ⟨by rfl, ?_⟩) ?_ ?_
            rotate_left
            · intro w'
              go_simp
              with_reducible rfl
            rotate_left
            · simp only [Act.put, List.setIfInBounds_toArray, List.set_cons_zero, List.set_cons_succ, i64_w, i32_w]
              rfl
            refine pure_ (i := 13) (N := some 84) (v := ?_) (a' := ?_) #[true, true, true, true, true, true, true, true, true, true, true, true, true, true, false, false, false, false, false, false, false, false, false] rfl rfl (any_of HT_.out (by kernel_rfl)) (fun _ _ _ h => h) (Or.inl ⟨by rfl, ?_⟩) ?_ ?_
            rotate_left
            · intro w'
              go_simp
              with_reducible rfl
            rotate_left
            · simp only [Act.put, List.setIfInBounds_toArray, List.set_cons_zero, List.set_cons_succ, i64_w, i32_w]
              rfl
            refine pure_ (i := 14) (N := some 85) (v := ?_) (a' := ?_) #[true, true, true, true, true, true, true, true, true, true, true, true, true, true, true, false, false, false, false, false, false, false, false] rfl rfl (any_of HT_.out (by kernel_rfl)) (fun _ _ _ h => h) (Or.inl ⟨by rfl, ?_⟩) ?_ ?_
            rotate_left
            · intro w'
              go_simp
              with_reducible rfl
            rotate_left
            · simp only [Act.put, List.setIfInBounds_toArray, List.set_cons_zero, List.set_cons_succ, i64_w, i32_w]
              rfl
            refine pure_ (i := 15) (N := some 86) (v := ?_) (a' := ?_) #[true, true, true, true, true, true, true, true, true, true, true, true, true, true, true, true, false, false, false, false, false, false, false] rfl rfl (any_of HT_.out (by kernel_rfl)) (fun _ _ _ h => h) (Or.inl ⟨by rfl, ?_⟩) ?_ ?_
            rotate_left
            · intro w'
              go_simp
              with_reducible rfl
            rotate_left
            · simp only [Act.put, List.setIfInBounds_toArray, List.set_cons_zero, List.set_cons_succ, i64_w, i32_w]
              rfl
            refine take_ (i := 16) (N := some 87) (v := ?_) (a' := ?_) #[true, true, true, true, true, true, true, true, true, true, true, true, true, true, true, true, true, false, false, false, false, false, false] rfl rfl (take_ofW HT_.out HW_.out (by kernel_rfl)) (fun _ _ _ h => h) (Or.inl ⟨by rfl, ?_⟩) hHeld ?_ ?_
            rotate_left
            · intro w' _
              go_simp
              with_reducible rfl
            rotate_left
            · simp only [Act.put, List.setIfInBounds_toArray, List.set_cons_zero, List.set_cons_succ, i64_w, i32_w]
              rfl
            refine one_ (i := 17) (N := some 88) #[true, true, true, true, true, true, true, true, true, true, true, true, true, true, true, true, true, true, false, false, false, false, false] rfl rfl (one_of HT_.out (by kernel_rfl)) (by decide) (fun K hK => ?_)
            refine goes_ Tryd.func27 (by kernel_rfl) rfl #[.int .u8 d] (by rfl) rfl rfl (by (try simp only [List.map_toArray, List.map_cons, List.map_nil]); first | done | rfl) ?_
            refine (TJ w7).mono ?_
            rintro e w8 ⟨rfl, hb8⟩
            have eG8 := (hb8.block G (blk_lt eG7)).trans eG7
            have hB8 := hB7.trans (hb8.mono hB7.size)
            refine ⟨_, rfl, ?_⟩
            refine hK.out _ _ trivial (fun hHeld => ?_)
            clear hK K
            refine norm_ (a' := ?_) ?_ ?_
            rotate_left
            · show Act.put _ (some 88) _ = _
              simp only [Act.put, List.setIfInBounds_toArray, List.set_cons_zero, List.set_cons_succ, i64_w, i32_w]
              rfl
            refine pure_ (i := 18) (N := some 89) (v := ?_) (a' := ?_) #[true, true, true, true, true, true, true, true, true, true, true, true, true, true, true, true, true, true, true, false, false, false, false] rfl rfl (any_of HT_.out (by kernel_rfl)) (fun _ _ _ h => h) (Or.inl ⟨by rfl, ?_⟩) ?_ ?_
            rotate_left
            · intro w'
              go_simp
              with_reducible rfl
            rotate_left
            · simp only [Act.put, List.setIfInBounds_toArray, List.set_cons_zero, List.set_cons_succ, i64_w, i32_w]
              rfl
            refine pure_ (i := 19) (N := some 90) (v := ?_) (a' := ?_) #[true, true, true, true, true, true, true, true, true, true, true, true, true, true, true, true, true, true, true, true, false, false, false] rfl rfl (any_of HT_.out (by kernel_rfl)) (fun _ _ _ h => h) (Or.inl ⟨by rfl, ?_⟩) ?_ ?_
            rotate_left
            · intro w'
              go_simp
              with_reducible rfl
            rotate_left
            · simp only [Act.put, List.setIfInBounds_toArray, List.set_cons_zero, List.set_cons_succ, i64_w, i32_w]
              rfl
            refine pure_ (i := 20) (N := some 91) (v := ?_) (a' := ?_) #[true, true, true, true, true, true, true, true, true, true, true, true, true, true, true, true, true, true, true, true, true, false, false] rfl rfl (any_of HT_.out (by kernel_rfl)) (fun _ _ _ h => h) (Or.inl ⟨by rfl, ?_⟩) ?_ ?_
            rotate_left
            · intro w'
              go_simp
              with_reducible rfl
            rotate_left
            · simp only [Act.put, List.setIfInBounds_toArray, List.set_cons_zero, List.set_cons_succ, i64_w, i32_w]
              rfl
            refine one_ (i := 21) (N := none) #[true, true, true, true, true, true, true, true, true, true, true, true, true, true, true, true, true, true, true, true, true, true, false] rfl rfl (one_of HT_.out (by kernel_rfl)) (by decide) (fun K hK => ?_)
            have x0 : w8.cell? ⟨G, 0, none⟩ = some (.int .i64 0) := (blk_cell eG8 0).trans rfl
            have g0 := blk_frozen eG8 0
            have x1 : w8.cell? ⟨G, 1, none⟩ = some (.string (⟨#[]⟩ : ByteArray)) := (blk_cell eG8 1).trans rfl
            have g1 := blk_frozen eG8 1
            have x2 : w8.cell? ⟨G, 2, none⟩ = some (.int .u64 0) := (blk_cell eG8 2).trans rfl
            have g2 := blk_frozen eG8 2
            have x3 : w8.cell? ⟨G, 3, none⟩ = some (.int .i64 0) := (blk_cell eG8 3).trans rfl
            have g3 := blk_frozen eG8 3
            refine skip_ (w1 := ?_) (by rfl) rfl ?_ ?_
            rotate_left
            · go_simp
              rfl
            refine hK.out _ _ trivial (fun hHeld => ?_)
            clear hK K
            refine pure_ (i := 22) (N := some 5) (v := ?_) (a' := ?_) #[true, true, true, true, true, true, true, true, true, true, true, true, true, true, true, true, true, true, true, true, true, true, true] rfl rfl (any_of HT_.out (by kernel_rfl)) (fun _ _ _ h => h) (Or.inl ⟨by rfl, ?_⟩) ?_ ?_
            rotate_left
            · intro w'
              go_simp
              with_reducible rfl
            rotate_left
            · simp only [Act.put, List.setIfInBounds_toArray, List.set_cons_zero, List.set_cons_succ, i64_w, i32_w]
              rfl
            refine done_ (done_of HT_.out (by kernel_rfl)) ?_
            go_wp2
            refine bodyPost_ret (results_ct rfl _ _ G 32 #[.int .i64 3, .string (s.extract i q), .int .u64 nv, .int .i64 (i : Int)] (0, 0) _ rfl (by first | exact blk_drew (put4 eG8) | exact put4 eG8) Tryd.underlying32 rfl (by kernel_rfl)) rfl ?_
            exact ⟨by first | exact (put4_below hB8 hGG).drew | exact put4_below hB8 hGG, by rw [hst.out]; first | rfl | exact ⟨_, _, _, _, rfl⟩⟩
    · have hqi : ¬ (q : Int) < (s.size : Int) := by omega
      obtain rfl : q = j := (runS_off (fun h => hqs h.1)).symm.trans hrun.out
      clear hrun
      have hiqi : (i : Int) ≤ (q : Int) := by omega
      have hqsi : (q : Int) ≤ (s.size : Int) := by omega
      have hqe : ((q : Int) == (s.size : Int)) = true := beq_iff_eq.mpr (by omega)
      have hst := hst.out
      rw [hT.out] at hst
      replace hst := Aside0.mk hst
      go_upto_region 12 with go_in
      go_upto_region 13 with (first
        | (go_at_call 29; refine (TV.out wr).mono ?_; rintro e w5 ⟨rfl, hb5⟩; have eG := (hb5.block G (blk_lt eG)).trans eG; have hB1 := hB1.trans (hb5.mono hB1.size))
        | go_in)
      clear TV
      have x0 := (blk_cell eG 0).trans rfl
      have x1 := (blk_cell eG 1).trans rfl
      have x2 := (blk_cell eG 2).trans rfl
      have x3 := (blk_cell eG 3).trans rfl
      have f0 : ∀ k, (w5).frozen? ⟨G, k, none⟩ = false := fun k => by simp [World.frozen?, eG]
      cases nb with
      | false =>
        have hst := hst.out
        rw [if_pos (.inl rfl)] at hst
        replace hst := Aside0.mk hst
        go_region
        all_goals go_wp2
        all_goals refine bodyPost_ret (results_ct rfl _ _ G 32 #[.int .i64 3, .string (s.extract i q), .int .u64 nv, .int .i64 (i : Int)] (0, 0) _ rfl (by first | exact blk_drew (put4 eG) | exact put4 eG) Tryd.underlying32 rfl (by kernel_rfl)) rfl ?_
        all_goals exact ⟨by first | exact (put4_below hB1 hGG).drew | exact put4_below hB1 hGG, by rw [hst.out]; first | rfl | exact ⟨_, _, _, _, rfl⟩⟩
      | true =>
        have hst := hst.out
        rw [if_neg (by rintro (h | ⟨h, _⟩); exact Bool.noConfusion h; exact hqs h)] at hst
        replace hst := Aside0.mk hst
        go_region
        all_goals go_wp2
        all_goals refine bodyPost_ret (results_ct rfl _ _ G 32 #[.int .i64 3, .string (s.extract i q), .int .u64 nv, .int .i64 (i : Int)] (0, 0) _ rfl (by first | exact blk_drew (put4 eG) | exact put4 eG) Tryd.underlying32 rfl (by kernel_rfl)) rfl ?_
        all_goals exact ⟨by first | exact (put4_below hB1 hGG).drew | exact put4_below hB1 hGG, by rw [hst.out]; first | rfl | exact ⟨_, _, _, _, rfl⟩⟩
end Go.Proofs.YtmklkkpeolnjbaaDoor.Lex
