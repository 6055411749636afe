/-
LexKeys: the words that have a meaning are the document's, and each is told as such. Conditions: as each theorem states them.
-/
import Derived.Test.YtmklkkpeolnjbaaDoorMPlaces
import Derived.Test.YtmklkkpeolnjbaaDoorPLexCutx3
set_option linter.unusedVariables false
set_option linter.unusedSimpArgs false
namespace Go.Proofs.YtmklkkpeolnjbaaDoor.Lex
open Go.RowKit Go.Proofs.YtmklkkpeolnjbaaDoorW.PrintWords Go.Proofs.YtmklkkpeolnjbaaDoorW.PrintLast Go.Proofs.YtmklkkpeolnjbaaDoorW.PrintMore
open Go.Proofs.YtmklkkpeolnjbaaDoor.Kit Go.ChangeMaps Go.MapKept
open Go.Proofs.YtmklkkpeolnjbaaDoor.PLexCut
/-! ### the law's key -/
theorem inj_b {a b : ByteArray} (h : a.toList = b.toList) : a = b := of_decide_eq_true ((same_b a b).symm.trans (beq_iff_eq.mpr h))
theorem any_drop (s : ByteArray) (q : Nat) (h : q < keys.length) : isKey (keys.drop q) s = (decide (s = keys[q]) || isKey (keys.drop (q + 1)) s) := by
  unfold isKey
  rw [List.drop_eq_getElem_cons h, List.any_cons]
theorem keyL_l0 (s : ByteArray) : ∀ (m q : Nat), q + m = 15 → ∃ k, tautochronelaw03_key.l0 k s keys 15 (q : Int) = some (isKey (keys.drop q) s)
  | 0, q, h => ⟨1, by
    obtain rfl : q = 15 := by omega
    rw [tautochronelaw03_key.l0, if_neg (by omega)]; rfl⟩
  | m + 1, q, h => by
    have hl : keys.length = 15 := rfl
    have hq : q < keys.length := by omega
    have hrd : rdOf ByteArray.empty keys (q : Int) = keys[q] := by
      unfold rdOf
      simp [hq]
    rw [any_drop s q hq]
    by_cases hc : s = keys[q]
    · exact ⟨1, by rw [tautochronelaw03_key.l0, if_pos (by omega), if_pos (by omega), if_pos (by rw [hl]; omega), hrd, if_pos (by rw [hc]), decide_eq_true hc]; rfl⟩
    · obtain ⟨k, hk⟩ := keyL_l0 s m (q + 1) (by omega)
      refine ⟨k + 1, ?_⟩
      rw [tautochronelaw03_key.l0, if_pos (by omega), if_pos (by omega), if_pos (by rw [hl]; omega), hrd, if_neg (fun h => hc (inj_b h).symm), nxtL q (by omega), hk, decide_eq_false hc, Bool.false_or]
theorem keyL.calls (s : ByteArray) (w : World) : Calls Tryd.prog 16 #[.string s] w fun e w' => e = .returned (.bool (isKey keys s)) ∧ Below w.heap.size w w' := by
  obtain ⟨k, hk⟩ := keyL_l0 s 15 0 rfl
  exact tautochronelaw03_key.calls k s _ w hk
/-! ### the law -/
theorem key_cut : ∀ q (h : q < keys.length), cutS keys[q] (keys[q].size + 1) 0 [] = .inl [⟨2, keys[q], 0, 0⟩, endTok keys[q]]
  | 0, _ => by kernel_rfl
  | 1, _ => by kernel_rfl
  | 2, _ => by kernel_rfl
  | 3, _ => by kernel_rfl
  | 4, _ => by kernel_rfl
  | 5, _ => by kernel_rfl
  | 6, _ => by kernel_rfl
  | 7, _ => by kernel_rfl
  | 8, _ => by kernel_rfl
  | 9, _ => by kernel_rfl
  | 10, _ => by kernel_rfl
  | 11, _ => by kernel_rfl
  | 12, _ => by kernel_rfl
  | 13, _ => by kernel_rfl
  | 14, _ => by kernel_rfl
  | q + 15, h => absurd h (by show ¬ (q + 15 < 15); omega)
theorem key_short : ∀ q (h : q < keys.length), keys[q].size ≤ 100
  | 0, _ => Nat.le_of_ble_eq_true rfl
  | 1, _ => Nat.le_of_ble_eq_true rfl
  | 2, _ => Nat.le_of_ble_eq_true rfl
  | 3, _ => Nat.le_of_ble_eq_true rfl
  | 4, _ => Nat.le_of_ble_eq_true rfl
  | 5, _ => Nat.le_of_ble_eq_true rfl
  | 6, _ => Nat.le_of_ble_eq_true rfl
  | 7, _ => Nat.le_of_ble_eq_true rfl
  | 8, _ => Nat.le_of_ble_eq_true rfl
  | 9, _ => Nat.le_of_ble_eq_true rfl
  | 10, _ => Nat.le_of_ble_eq_true rfl
  | 11, _ => Nat.le_of_ble_eq_true rfl
  | 12, _ => Nat.le_of_ble_eq_true rfl
  | 13, _ => Nat.le_of_ble_eq_true rfl
  | 14, _ => Nat.le_of_ble_eq_true rfl
  | q + 15, h => absurd h (by show ¬ (q + 15 < 15); omega)
theorem cut_key (q : Nat) (h : q < keys.length) (w : World) : Calls Tryd.prog 10 #[.string keys[q]] w fun e w' => Below w.heap.size w w' ∧ ∃ A c, e = .returned (.tuple #[.slice A 2 c, .nilIface]) ∧ 2 ≤ c ∧ Kd.C kTok w' A 2 [⟨2, keys[q], 0, 0⟩, endTok keys[q]] := by
  have h1 := cut.calls keys[q] w (Nat.le_trans (key_short q h) (by decide))
  have h2 := key_cut q h
  generalize keys[q] = K at h1 h2 ⊢
  rw [h2] at h1
  exact h1
/-- How many of the first words are this one. -/
def cntK (s : ByteArray) (q : Nat) : Nat := ((keys.take q).filter (fun k => decide (k = s))).length
theorem cntK_succ (s : ByteArray) (q : Nat) (h : q < keys.length) : cntK s (q + 1) = cntK s q + if keys[q] = s then 1 else 0 := by
  unfold cntK
  rw [List.take_add_one, List.getElem?_eq_getElem h, List.filter_append, List.length_append]
  by_cases hs : keys[q] = s <;> simp [hs]
theorem filt_le (s : ByteArray) : ∀ (K : List ByteArray), K.Nodup → (K.filter (fun k => decide (k = s))).length = if isKey K s = true then 1 else 0
  | [], _ => rfl
  | k :: K, h => by
    rw [List.nodup_cons] at h
    have ih := filt_le s K h.2
    have hc : isKey (k :: K) s = (decide (s = k) || isKey K s) := by unfold isKey; rw [List.any_cons]
    rw [hc]
    by_cases hk : k = s
    · subst hk
      have hn : isKey K k = false := by
        cases hh : isKey K k with
        | false => rfl
        | true => exact absurd (isKey_mem.mp hh) h.1
      rw [hn] at ih
      rw [List.filter_cons_of_pos (by simp), List.length_cons, ih]
      simp
    · rw [List.filter_cons_of_neg (by simpa using hk), ih, decide_eq_false (fun e => hk e.symm), Bool.false_or]
theorem cntK_all (s : ByteArray) : cntK s 15 = if isKey keys s = true then 1 else 0 := filt_le s keys keys_nodup
set_option maxHeartbeats 4000000 in
set_option maxRecDepth 100000 in
theorem lexKeys.calls (s : ByteArray) (w : World) (hg : As.Handle w) (hs : s.size ≤ 9223372036854775807) : Calls Tryd.prog 5 #[.string s] w fun e w' => e = .returned (.bool true) ∧ Below w.heap.size w w' := by
  have CA := awake.calls w hg
  go_enter Tryd.func5, Tryd.ntmps5
  go_upto_region 5 with (first
    | (go_at_call 9; refine CA.mono ?_; rintro e w1 ⟨rfl, hb1⟩)
    | (go_at_call 15; refine (keys.calls w1).mono ?_; rintro e w2 ⟨rfl, rfl⟩)
    | go_in)
  have eK := heap_alloc_new w1 (Obj.cells keyCells 9 (0, 0))
  have hB : Below w.heap.size w (w1.alloc (Obj.cells keyCells 9 (0, 0))) := below_alloc hb1 _
  clear CA hb1 hg
  generalize w1.alloc (Obj.cells keyCells 9 (0, 0)) = w2 at *
  generalize w1.heap.size = G at *
  have c0 : cntK s 0 = 0 := by unfold cntK; simp
  go_wp2
  go_loopw [4, 14] (fun v4 v14 wr => ∃ q : Nat, v14 = .int .i64 q ∧ q ≤ 15 ∧ v4 = .int .i64 (cntK s q : Int) ∧ wr.heap[G]? = some (Obj.cells keyCells 9 (0, 0)) ∧ Below w.heap.size w wr)
    (fun _ v14 _ => 15 - (intOf v14).toNat)
  case atStart => exact ⟨0, rfl, by omega, by rw [c0]; rfl, eK, hB⟩
  case round =>
    clear eK hB c0
    obtain ⟨q, rfl, hq, rfl, eK, hB⟩ := hrel
    have hkl : keys.length = 15 := rfl
    by_cases hql : q < 15
    · have hqi : (q : Int) < 15 := by omega
      have y := key_cell eK q (by omega)
      have TC := cut_key q (by omega) wr
      have hck : isKey keys keys[q] = true := isKey_mem.mpr (List.getElem_mem _)
      have TK := fun wx : World => keyL.calls keys[q] wx
      rw [hck] at TK
      have hcn := cntK_succ s q (by omega)
      have hcl : cntK s q ≤ 15 := by
        have := List.length_filter_le (fun k => decide (k = s)) (keys.take q)
        rw [List.length_take] at this
        unfold cntK
        omega
      generalize keys[q] = K at y TC TK hcn
      replace hcn := Aside0.mk hcn
      have lG := blk_lt eK
      generalize cntK s q = n at *
      go_upto_region 9 with (first
        | (go_at_call 10; refine TC.mono ?_; rintro e w3 ⟨hb3, A, c, rfl, hc, hC⟩)
        | go_in)
      obtain ⟨ad, rfl, z0, z1, z2, z3⟩ := at_Tok hC 0 (by decide) (by decide)
      have r0 : rdTok [⟨2, K, 0, 0⟩, endTok K] 0 = ⟨2, K, 0, 0⟩ := rfl
      rw [r0] at z0
      have e0 : Int.toNat 0 * 4 = 0 := rfl
      rw [e0] at z0
      replace z0 : w3.cell? ad = some (.int .i64 2) := z0
      have eK := (hb3.block G lG).trans eK
      have hB := hB.trans (hb3.mono hB.size)
      clear z1 z2 z3 r0 e0 hC y TC hb3
      go_upto_region 11 with (first
        | (go_at_call 16; refine (TK w3).mono ?_; rintro e w4 ⟨rfl, hb4⟩)
        | go_in)
      have eK := (hb4.block G (blk_lt eK)).trans eK
      have hB := hB.trans (hb4.mono hB.size)
      clear TK hb4 z0
      have hks := same_b K s
      by_cases hKs : K = s
      · rw [decide_eq_true hKs] at hks
        rw [if_pos hKs] at hcn
        replace hKs := Aside0.mk hKs
        go_wp2
        go_roundw
        case rel => exact ⟨q + 1, by first | rfl | go_num, by omega, by rw [hcn.out]; first | rfl | go_num, eK, hB⟩
        case measure => simp [intOf]; omega
      · rw [decide_eq_false hKs] at hks
        rw [if_neg hKs] at hcn
        replace hKs := Aside0.mk hKs
        go_wp2
        go_roundw
        case rel => exact ⟨q + 1, by first | rfl | go_num, by omega, by rw [hcn.out]; rfl, eK, hB⟩
        case measure => simp [intOf]; omega
    · have hqi : ¬ (q : Int) < 15 := by omega
      obtain rfl : q = 15 := by omega
      have TK := fun wx : World => keyL.calls s wx
      have hn := cntK_all s
      cases hk : isKey keys s with
      | true =>
        rw [hk] at hn TK
        rw [hn]
        clear hn
        replace hk := Aside0.mk hk
        go_wp2_with (first | (go_at_call 16; refine (TK wr).mono ?_; rintro e w4 ⟨rfl, hb4⟩))
        go_ret
        exact ⟨rfl, hB.trans (hb4.mono hB.size)⟩
      | false =>
        rw [hk] at hn TK
        rw [hn]
        clear hn
        replace hk := Aside0.mk hk
        go_wp2_with (first | (go_at_call 16; refine (TK wr).mono ?_; rintro e w4 ⟨rfl, hb4⟩))
        go_ret
        exact ⟨rfl, hB.trans (hb4.mono hB.size)⟩
end Go.Proofs.YtmklkkpeolnjbaaDoor.Lex
