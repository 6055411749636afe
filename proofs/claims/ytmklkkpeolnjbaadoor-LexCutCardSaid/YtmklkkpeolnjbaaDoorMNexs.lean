/-
The law's next at what is neither letter nor digit. Conditions: as each theorem states them.
-/
import Derived.Test.YtmklkkpeolnjbaaDoorMNexd
set_option linter.unusedVariables false
set_option linter.unusedSimpArgs false
namespace Go.Proofs.YtmklkkpeolnjbaaDoor.Lex
open Go.RowKit Go.Proofs.YtmklkkpeolnjbaaDoorW.PrintWords Go.Proofs.YtmklkkpeolnjbaaDoorW.PrintLast Go.Proofs.YtmklkkpeolnjbaaDoorW.PrintMore
open Go.Proofs.YtmklkkpeolnjbaaDoor.Kit Go.ChangeMaps Go.MapKept
open Go.Proofs.YtmklkkpeolnjbaaDoor.PLexCut
def sgB : ByteArray := ⟨#[59, 61, 91, 93, 123, 125, 40, 41, 44, 43, 45, 42, 38, 124, 94, 60, 126]⟩
theorem sg_in : ∀ k : Nat, k < 17 → oneSign (bt sgB (k : Int)) = true
  | 0, _ => by kernel_rfl
  | 1, _ => by kernel_rfl
  | 2, _ => by kernel_rfl
  | 3, _ => by kernel_rfl
  | 4, _ => by kernel_rfl
  | 5, _ => by kernel_rfl
  | 6, _ => by kernel_rfl
  | 7, _ => by kernel_rfl
  | 8, _ => by kernel_rfl
  | 9, _ => by kernel_rfl
  | 10, _ => by kernel_rfl
  | 11, _ => by kernel_rfl
  | 12, _ => by kernel_rfl
  | 13, _ => by kernel_rfl
  | 14, _ => by kernel_rfl
  | 15, _ => by kernel_rfl
  | 16, _ => by kernel_rfl
  | k + 17, h => by omega
theorem sg_ex {c : Int} (h : oneSign c = true) : ∃ k : Nat, k < 17 ∧ bt sgB (k : Int) = c := by
  replace h := of_decide_eq_true h
  rcases h with h | h | h | h | h | h | h | h | h | h | h | h | h | h | h | h | h <;> subst h
  · exact ⟨0, by decide, by kernel_rfl⟩
  · exact ⟨1, by decide, by kernel_rfl⟩
  · exact ⟨2, by decide, by kernel_rfl⟩
  · exact ⟨3, by decide, by kernel_rfl⟩
  · exact ⟨4, by decide, by kernel_rfl⟩
  · exact ⟨5, by decide, by kernel_rfl⟩
  · exact ⟨6, by decide, by kernel_rfl⟩
  · exact ⟨7, by decide, by kernel_rfl⟩
  · exact ⟨8, by decide, by kernel_rfl⟩
  · exact ⟨9, by decide, by kernel_rfl⟩
  · exact ⟨10, by decide, by kernel_rfl⟩
  · exact ⟨11, by decide, by kernel_rfl⟩
  · exact ⟨12, by decide, by kernel_rfl⟩
  · exact ⟨13, by decide, by kernel_rfl⟩
  · exact ⟨14, by decide, by kernel_rfl⟩
  · exact ⟨15, by decide, by kernel_rfl⟩
  · exact ⟨16, by decide, by kernel_rfl⟩
theorem two_eq (T : ByteArray) : twoSign T = ((T.toList == ([60, 60] : List UInt8)) || (T.toList == ([62, 62] : List UInt8)) || (T.toList == ([61, 61] : List UInt8))) := by
  unfold twoSign
  by_cases h1 : T.toList = [60, 60]
  · simp [h1]
  · by_cases h2 : T.toList = [62, 62]
    · simp [h2]
    · by_cases h3 : T.toList = [61, 61]
      · simp [h3]
      · simp [h1, h2, h3]
set_option maxHeartbeats 8000000 in
set_option maxRecDepth 100000 in
theorem next_sign (s : ByteArray) (i : Nat) (w : World) (hs : s.size ≤ 1000000) (hi : i < s.size) (hno : Stays s i) (hl : isLetter (bt s (i : Int)) = false) (hd : isDigit (bt s (i : Int)) = false) : Calls Tryd.prog 12 #[.string s, .int .i64 (i : Int)] w (NextP w s i) := by
  have hst : stepS s i = if (signS s i).size = 0 then .bad else .tok ⟨4, signS s i, 0, i⟩ (i + (signS s i).size) := by
    have hn := hno
    unfold Stays stepS at hn
    unfold stepS
    by_cases h1 : isBlank (bt s (i : Int)) = true
    · rw [if_pos h1] at hn
      exact absurd rfl (hn _)
    · by_cases h2 : bt s (i : Int) = 35
      · rw [if_neg h1, if_pos h2] at hn
        exact absurd rfl (hn _)
      · rw [if_neg h1, if_neg h2, if_neg (by rw [hl]; decide), if_neg (by rw [hd]; decide)]
  have hii : (i : Int) < (s.size : Int) := by omega
  have hi0 : (0 : Int) ≤ (i : Int) := by omega
  have hbt : ∀ h : i < s.size, ((s[i]'h).toNat : Int) = bt s (i : Int) := fun h => bt_at s (i : Int) (by simpa using h)
  have hn1 := nxtL i (by omega)
  have TL := fun wx : World => letterL.calls (bt s (i : Int)) wx
  have TD := fun wx : World => digitL.calls (bt s (i : Int)) wx
  rw [hl] at TL
  rw [hd] at TD
  have hs1 : (s.extract i (i + 1)).size = 1 := by rw [ByteArray.size_extract]; omega
  have hs2 : i + 1 < s.size → (s.extract i (i + 2)).size = 2 := fun h => by rw [ByteArray.size_extract]; omega
  have h2t : Aside0 (i + 1 < s.size → ((s.extract i (i + 2)).toList == ([60, 60] : List UInt8) || (s.extract i (i + 2)).toList == ([62, 62] : List UInt8) || (s.extract i (i + 2)).toList == ([61, 61] : List UInt8)) = true → stepS s i = .tok ⟨4, s.extract i (i + 2), 0, i⟩ (i + 2)) := ⟨fun h hh => by
    have e : signS s i = s.extract i (i + 2) := by unfold signS; rw [if_pos ⟨h, by rw [two_eq]; exact hh⟩]
    rw [hst, e, hs2 h, if_neg (by decide)]⟩
  have h1t : Aside0 (¬ (i + 1 < s.size ∧ ((s.extract i (i + 2)).toList == ([60, 60] : List UInt8) || (s.extract i (i + 2)).toList == ([62, 62] : List UInt8) || (s.extract i (i + 2)).toList == ([61, 61] : List UInt8)) = true) → stepS s i = if oneSign (bt s (i : Int)) = true then .tok ⟨4, s.extract i (i + 1), 0, i⟩ (i + 1) else .bad) := ⟨fun hh => by
    have e : signS s i = if oneSign (bt s (i : Int)) = true then s.extract i (i + 1) else ⟨#[]⟩ := by unfold signS; rw [two_eq, if_neg hh]
    rw [hst, e]
    by_cases ho : oneSign (bt s (i : Int)) = true
    · rw [if_pos ho, if_pos ho, if_neg (by omega), hs1]
    · rw [if_neg ho, if_neg ho]; rfl⟩
  clear hst
  generalize bt s (i : Int) = c at hbt TL TD h1t
  go_enter Tryd.func12, Tryd.ntmps12
  go_upto_region 1 with go_in
  have eG := heap_alloc_new w (Obj.cells zCells 32 (0, 0))
  have hB1 : Below w.heap.size w (w.alloc (Obj.cells zCells 32 (0, 0))) := below_alloc (Below.refl _ _) _
  unfold zCells at hB1 eG
  generalize w.alloc (Obj.cells #[.int .i64 0, .string ⟨#[]⟩, .int .u64 0, .int .i64 0] 32 (0, 0)) = w1 at *
  generalize hGe : w.heap.size = G at eG ⊢
  have hGG : w.heap.size ≤ G := by omega
  clear hGe
  go_upto_region 14 with (first
    | (go_at_call 27; refine (TL w1).mono ?_; rintro e w2 ⟨rfl, hb2⟩; have eG := (hb2.block G (blk_lt eG)).trans eG; have hB1 := hB1.trans (hb2.mono hB1.size))
    | (go_at_call 28; refine (TD w2).mono ?_; rintro e w3 ⟨rfl, hb3⟩; have eG := (hb3.block G (blk_lt eG)).trans eG; have hB1 := hB1.trans (hb3.mono hB1.size))
    | go_in)
  clear TL TD hbt hn1
  have x0 := (blk_cell eG 0).trans rfl
  have x1 := (blk_cell eG 1).trans rfl
  have x2 := (blk_cell eG 2).trans rfl
  have x3 := (blk_cell eG 3).trans rfl
  have f0 : ∀ k, (w3).frozen? ⟨G, k, none⟩ = false := fun k => by simp [World.frozen?, eG]
  by_cases h2 : i + 1 < s.size
  · have h2i : (i : Int) + 1 < (s.size : Int) := by omega
    have h2j : (i : Int) + 2 ≤ (s.size : Int) := by omega
    have hs2 := hs2 h2
    have h02 : (i : Int) ≤ (i : Int) + 2 := by omega
    have h0n : ((i : Int) + 2).toNat = i + 2 := by omega
    cases c60 : ((s.extract i (i + 2)).toList == ([60, 60] : List UInt8)) with
    | true =>
      have hst := Aside0.mk (h2t.out h2 (by rw [c60]; rfl))
      go_wp2
      refine bodyPost_ret (results_ct rfl _ _ G 32 #[.int .i64 4, .string (s.extract i (i + 2)), .int .u64 0, .int .i64 (i : Int)] (0, 0) _ rfl (put4 eG) Tryd.underlying32 rfl (by kernel_rfl)) rfl ?_
      exact ⟨put4_below hB1 hGG, by rw [hst.out]; first | rfl | exact ⟨_, _, _, _, rfl⟩⟩
    | false =>
      cases c62 : ((s.extract i (i + 2)).toList == ([62, 62] : List UInt8)) with
      | true =>
        have hst := Aside0.mk (h2t.out h2 (by rw [c60, c62]; rfl))
        go_wp2
        refine bodyPost_ret (results_ct rfl _ _ G 32 #[.int .i64 4, .string (s.extract i (i + 2)), .int .u64 0, .int .i64 (i : Int)] (0, 0) _ rfl (put4 eG) Tryd.underlying32 rfl (by kernel_rfl)) rfl ?_
        exact ⟨put4_below hB1 hGG, by rw [hst.out]; first | rfl | exact ⟨_, _, _, _, rfl⟩⟩
      | false =>
        cases c61 : ((s.extract i (i + 2)).toList == ([61, 61] : List UInt8)) with
        | true =>
          have hst := Aside0.mk (h2t.out h2 (by rw [c60, c62, c61]; rfl))
          go_wp2
          refine bodyPost_ret (results_ct rfl _ _ G 32 #[.int .i64 4, .string (s.extract i (i + 2)), .int .u64 0, .int .i64 (i : Int)] (0, 0) _ rfl (put4 eG) Tryd.underlying32 rfl (by kernel_rfl)) rfl ?_
          exact ⟨put4_below hB1 hGG, by rw [hst.out]; first | rfl | exact ⟨_, _, _, _, rfl⟩⟩
        | false =>
          have hst := Aside0.mk (h1t.out (by rw [c60, c62, c61]; exact fun h => Bool.noConfusion h.2))
          go_upto_region 17 with go_in
          have hSs : sgB.size = 17 := rfl
          have hSi := sg_in
          have hSe : oneSign c = true → ∃ k : Nat, k < 17 ∧ bt sgB (k : Int) = c := sg_ex
          unfold sgB at hSs hSi hSe
          generalize (⟨#[59, 61, 91, 93, 123, 125, 40, 41, 44, 43, 45, 42, 38, 124, 94, 60, 126]⟩ : ByteArray) = SG at *
          replace hSi := Aside0.mk hSi
          replace hSe := Aside0.mk hSe
          clear x0 x1 x2 x3 f0 h1t h2t
          have hii1 : (i : Int) + 1 ≤ (s.size : Int) := by omega
          have hin : ((i : Int) + 1).toNat = i + 1 := by omega
          have hi01 : (i : Int) ≤ (i : Int) + 1 := by omega
          go_wp2
          go_loopw [12] (fun v12 wr => ∃ k : Nat, v12 = .int .i64 k ∧ k ≤ 17 ∧ Aside0 (∀ j : Nat, j < k → bt SG (j : Int) ≠ c) ∧ wr.heap[G]? = some (Obj.cells #[.int .i64 0, .string ⟨#[]⟩, .int .u64 0, .int .i64 0] 32 (0, 0)) ∧ Below w.heap.size w wr) (fun v12 _ => 17 - (intOf v12).toNat)
          case atStart => exact ⟨0, rfl, by omega, ⟨fun j h => by omega⟩, eG, hB1⟩
          case round =>
            clear eG hB1
            obtain ⟨k, rfl, hk, hnone, eG, hB1⟩ := hrel
            have x0 := (blk_cell eG 0).trans rfl
            have x1 := (blk_cell eG 1).trans rfl
            have x2 := (blk_cell eG 2).trans rfl
            have x3 := (blk_cell eG 3).trans rfl
            have f0 : ∀ k, (wr).frozen? ⟨G, k, none⟩ = false := fun k => by simp [World.frozen?, eG]
            by_cases hk17 : k < 17
            · have hki : (k : Int) < 17 := by omega
              have hk0 : (0 : Int) ≤ (k : Int) := by omega
              have hks : (k : Int) < (SG.size : Int) := by omega
              have hbk : ∀ h : k < SG.size, ((SG[k]'h).toNat : Int) = bt SG (k : Int) := fun h => bt_at SG (k : Int) (by simpa using h)
              by_cases hc : bt SG (k : Int) = c
              · have hone : oneSign c = true := by rw [← hc]; exact hSi.out k hk17
                have hst := hst.out
                rw [if_pos hone] at hst
                replace hst := Aside0.mk hst
                replace hone := Aside0.mk hone
                have hcb : (bt SG (k : Int) == c) = true := beq_iff_eq.mpr hc
                clear hc
                generalize bt SG (k : Int) = d at hbk hcb
                go_wp2
                refine bodyPost_ret (results_ct rfl _ _ G 32 #[.int .i64 4, .string (s.extract i (i + 1)), .int .u64 0, .int .i64 (i : Int)] (0, 0) _ rfl (put4 eG) Tryd.underlying32 rfl (by kernel_rfl)) rfl ?_
                exact ⟨put4_below hB1 hGG, by rw [hst.out]; first | rfl | exact ⟨_, _, _, _, rfl⟩⟩
              · have hcb : (bt SG (k : Int) == c) = false := beq_eq_false_iff_ne.mpr hc
                have hnone2 : Aside0 (∀ j : Nat, j < k + 1 → bt SG (j : Int) ≠ c) := ⟨fun j h => by
                  by_cases hj : j = k
                  · rw [hj]; exact hc
                  · exact hnone.out j (by omega)⟩
                clear hnone hc
                generalize bt SG (k : Int) = d at hbk hcb
                go_wp2
                go_roundw
                case rel => exact ⟨k + 1, by first | rfl | go_num, by omega, hnone2, eG, hB1⟩
                case measure => simp [intOf]; omega
            · have hki : ¬ (k : Int) < 17 := by omega
              have hks : ¬ (k : Int) < (SG.size : Int) := by omega
              have hone : oneSign c = false := by
                cases ho : oneSign c with
                | false => rfl
                | true =>
                  obtain ⟨j, h1, h2⟩ := hSe.out ho
                  exact absurd h2 (hnone.out j (by omega))
              have hst := hst.out
              rw [hone, if_neg (by decide)] at hst
              replace hst := Aside0.mk hst
              replace hone := Aside0.mk hone
              go_wp2
              refine bodyPost_ret (results_ct rfl _ _ G 32 #[.int .i64 0, .string ⟨#[]⟩, .int .u64 0, .int .i64 0] (0, 0) _ rfl (put4 eG) Tryd.underlying32 rfl (by kernel_rfl)) rfl ?_
              exact ⟨put4_below hB1 hGG, by rw [hst.out]; first | rfl | exact ⟨_, _, _, _, rfl⟩⟩
  · have h2i : ¬ (i : Int) + 1 < (s.size : Int) := by omega
    have hst := Aside0.mk (h1t.out (fun h => h2 h.1))
    go_upto_region 17 with go_in
    have hSs : sgB.size = 17 := rfl
    have hSi := sg_in
    have hSe : oneSign c = true → ∃ k : Nat, k < 17 ∧ bt sgB (k : Int) = c := sg_ex
    unfold sgB at hSs hSi hSe
    generalize (⟨#[59, 61, 91, 93, 123, 125, 40, 41, 44, 43, 45, 42, 38, 124, 94, 60, 126]⟩ : ByteArray) = SG at *
    replace hSi := Aside0.mk hSi
    replace hSe := Aside0.mk hSe
    clear x0 x1 x2 x3 f0 h1t h2t
    have hii1 : (i : Int) + 1 ≤ (s.size : Int) := by omega
    have hin : ((i : Int) + 1).toNat = i + 1 := by omega
    have hi01 : (i : Int) ≤ (i : Int) + 1 := by omega
    go_wp2
    go_loopw [12] (fun v12 wr => ∃ k : Nat, v12 = .int .i64 k ∧ k ≤ 17 ∧ Aside0 (∀ j : Nat, j < k → bt SG (j : Int) ≠ c) ∧ wr.heap[G]? = some (Obj.cells #[.int .i64 0, .string ⟨#[]⟩, .int .u64 0, .int .i64 0] 32 (0, 0)) ∧ Below w.heap.size w wr) (fun v12 _ => 17 - (intOf v12).toNat)
    case atStart => exact ⟨0, rfl, by omega, ⟨fun j h => by omega⟩, eG, hB1⟩
    case round =>
      clear eG hB1
      obtain ⟨k, rfl, hk, hnone, eG, hB1⟩ := hrel
      have x0 := (blk_cell eG 0).trans rfl
      have x1 := (blk_cell eG 1).trans rfl
      have x2 := (blk_cell eG 2).trans rfl
      have x3 := (blk_cell eG 3).trans rfl
      have f0 : ∀ k, (wr).frozen? ⟨G, k, none⟩ = false := fun k => by simp [World.frozen?, eG]
      by_cases hk17 : k < 17
      · have hki : (k : Int) < 17 := by omega
        have hk0 : (0 : Int) ≤ (k : Int) := by omega
        have hks : (k : Int) < (SG.size : Int) := by omega
        have hbk : ∀ h : k < SG.size, ((SG[k]'h).toNat : Int) = bt SG (k : Int) := fun h => bt_at SG (k : Int) (by simpa using h)
        by_cases hc : bt SG (k : Int) = c
        · have hone : oneSign c = true := by rw [← hc]; exact hSi.out k hk17
          have hst := hst.out
          rw [if_pos hone] at hst
          replace hst := Aside0.mk hst
          replace hone := Aside0.mk hone
          have hcb : (bt SG (k : Int) == c) = true := beq_iff_eq.mpr hc
          clear hc
          generalize bt SG (k : Int) = d at hbk hcb
          go_wp2
          refine bodyPost_ret (results_ct rfl _ _ G 32 #[.int .i64 4, .string (s.extract i (i + 1)), .int .u64 0, .int .i64 (i : Int)] (0, 0) _ rfl (put4 eG) Tryd.underlying32 rfl (by kernel_rfl)) rfl ?_
          exact ⟨put4_below hB1 hGG, by rw [hst.out]; first | rfl | exact ⟨_, _, _, _, rfl⟩⟩
        · have hcb : (bt SG (k : Int) == c) = false := beq_eq_false_iff_ne.mpr hc
          have hnone2 : Aside0 (∀ j : Nat, j < k + 1 → bt SG (j : Int) ≠ c) := ⟨fun j h => by
            by_cases hj : j = k
            · rw [hj]; exact hc
            · exact hnone.out j (by omega)⟩
          clear hnone hc
          generalize bt SG (k : Int) = d at hbk hcb
          go_wp2
          go_roundw
          case rel => exact ⟨k + 1, by first | rfl | go_num, by omega, hnone2, eG, hB1⟩
          case measure => simp [intOf]; omega
      · have hki : ¬ (k : Int) < 17 := by omega
        have hks : ¬ (k : Int) < (SG.size : Int) := by omega
        have hone : oneSign c = false := by
          cases ho : oneSign c with
          | false => rfl
          | true =>
            obtain ⟨j, h1, h2⟩ := hSe.out ho
            exact absurd h2 (hnone.out j (by omega))
        have hst := hst.out
        rw [hone, if_neg (by decide)] at hst
        replace hst := Aside0.mk hst
        replace hone := Aside0.mk hone
        go_wp2
        refine bodyPost_ret (results_ct rfl _ _ G 32 #[.int .i64 0, .string ⟨#[]⟩, .int .u64 0, .int .i64 0] (0, 0) _ rfl (put4 eG) Tryd.underlying32 rfl (by kernel_rfl)) rfl ?_
        exact ⟨put4_below hB1 hGG, by rw [hst.out]; first | rfl | exact ⟨_, _, _, _, rfl⟩⟩
theorem next.calls (s : ByteArray) (i : Nat) (w : World) (hs : s.size ≤ 1000000) (hi : i < s.size) (hno : Stays s i) : Calls Tryd.prog 12 #[.string s, .int .i64 (i : Int)] w (NextP w s i) := by
  cases hl : isLetter (bt s (i : Int)) with
  | true => exact next_word s i w hs hi hl
  | false =>
    cases hd : isDigit (bt s (i : Int)) with
    | true => exact next_digit s i w hs hi hl hd
    | false => exact next_sign s i w hs hi hno hl hd
end Go.Proofs.YtmklkkpeolnjbaaDoor.Lex
