/-
What the machine of TsoOwn does, plainly. Conditions: as each theorem states them.
-/
import Derived.Test.YtaenjbhhpdmhgaaMTsV
import Derived.Test.YtaenjbhhpdmhgaaPTsoScriptx11
set_option linter.unusedVariables false
set_option linter.unusedSimpArgs false
namespace Go.Proofs.Ytaenjbhhpdmhgaa.Tso
open Go.RowKit Go.Proofs.YtaenjbhhpdmhgaaW.PrintWords Go.Proofs.YtaenjbhhpdmhgaaW.PrintLast Go.Proofs.YtaenjbhhpdmhgaaW.PrintMore
open Go.Proofs.Ytaenjbhhpdmhgaa.Kit
open Go.Proofs.Ytaenjbhhpdmhgaa.PTsoScript
def put0 : S28 := ⟨5, 0, 0, -1, 0, 0, 0, 0⟩
def read1 : S28 := ⟨4, 0, 1, -1, 0, 0, 0, 0⟩
def tell1 : S28 := ⟨12, 0, 0, 1, 0, 0, 0, 0⟩
def halt0 : S28 := ⟨13, 0, 0, 0, 0, 0, 0, 0⟩
/-- The codes before they are bared: four for each value. -/
def rawO (l : List Int) : Nat → List S28
  | 0 => []
  | n + 1 => rawO l n ++ [setC (l.getD n 0), put0, read1, tell1]
def ownX (l : List Int) (n : Nat) : List S28 := (rawO l n ++ [halt0]).map bareX
theorem rawO_len (l : List Int) (n : Nat) : (rawO l n).length = 4 * n := by
  induction n with
  | zero => rfl
  | succ n ih => simp [rawO, ih]; omega
def roundO (v : Int) : List S28 := [setC v, put0, read1, tell1]
theorem rawO_at (l : List Int) (n i r : Nat) (h : i < n) (hr : r < 4) : (rawO l n)[4 * i + r]? = (roundO (l.getD i 0))[r]? := by
  induction n with
  | zero => omega
  | succ n ih =>
    have hl := rawO_len l n
    unfold rawO
    rcases Nat.lt_or_ge i n with hi | hi
    · rw [List.getElem?_append_left (by omega)]
      exact ih hi
    · obtain rfl : i = n := by omega
      rw [List.getElem?_append_right (by omega), hl, show 4 * i + r - 4 * i = r by omega]
      rfl
theorem ownX_len (l : List Int) (n : Nat) : (ownX l n).length = 4 * n + 1 := by simp [ownX, rawO_len]
theorem ownX_at (l : List Int) (n i r : Nat) (h : i < n) (hr : r < 4) : (ownX l n)[4 * i + r]? = ((roundO (l.getD i 0))[r]?).map bareX := by
  have hl := rawO_len l n
  unfold ownX
  rw [List.getElem?_map, List.getElem?_append_left (by omega), rawO_at l n i r h hr]
theorem ownX_end (l : List Int) (n : Nat) : (ownX l n)[4 * n]? = some (bareX halt0) := by
  have hl := rawO_len l n
  unfold ownX
  rw [List.getElem?_map, List.getElem?_append_right (by omega), hl, Nat.sub_self]
  rfl
theorem rawO_mem (l : List Int) (n : Nat) : ∀ x ∈ rawO l n, (∃ v, x = setC v) ∨ x = put0 ∨ x = read1 ∨ x = tell1 := by
  induction n with
  | zero => intro x hx; cases hx
  | succ n ih =>
    intro x hx
    unfold rawO at hx
    rw [List.mem_append] at hx
    rcases hx with hx | hx
    · exact ih x hx
    · simp only [List.mem_cons, List.not_mem_nil, or_false] at hx
      rcases hx with rfl | rfl | rfl | rfl
      · exact Or.inl ⟨_, rfl⟩
      · exact Or.inr (Or.inl rfl)
      · exact Or.inr (Or.inr (Or.inl rfl))
      · exact Or.inr (Or.inr (Or.inr rfl))
theorem bare_put0 : bareX put0 = ⟨5, 0, -1, -1, 0, -1, 0, 0⟩ := rfl
theorem bare_read1 : bareX read1 = ⟨4, 0, 1, -1, -1, -1, 0, 0⟩ := rfl
theorem bare_tell1 : bareX tell1 = ⟨12, 0, -1, 1, -1, -1, 0, 0⟩ := rfl
theorem bare_halt0 : bareX halt0 = ⟨13, 0, -1, -1, -1, -1, 0, 0⟩ := rfl
theorem good_rest (m : Nat) : goodX m 1 (bareX put0) ∧ goodX m 1 (bareX read1) ∧ goodX m 1 (bareX tell1) ∧ goodX m 1 (bareX halt0) := by
  rw [bare_put0, bare_read1, bare_tell1, bare_halt0]
  refine ⟨⟨?_, of_decide_eq_true rfl, of_decide_eq_true rfl⟩, ⟨?_, of_decide_eq_true rfl, of_decide_eq_true rfl⟩, ⟨?_, of_decide_eq_true rfl, of_decide_eq_true rfl⟩, ⟨?_, of_decide_eq_true rfl, of_decide_eq_true rfl⟩⟩ <;> simp [Pure.gcX, Pure.gcS, Pure.U16, Pure.usesS]
theorem ownX_im (l : List Int) (n : Nat) (hn : n ≤ 10) : Pure.imS ((1 : Nat) : Int) ((1 : Nat) : Int) [ownX l n] := by
  refine ⟨by decide, by decide, by decide, by simp, fun t ht => ?_⟩
  obtain rfl : t = ownX l n := by simpa using ht
  have hl := ownX_len l n
  refine th_of (by omega) (x := bareX halt0) (by rw [hl, show 4 * n + 1 - 1 = 4 * n by omega]; exact ownX_end l n) rfl (fun y hy => ?_)
  unfold ownX at hy
  rw [List.mem_map] at hy
  obtain ⟨x, hx, rfl⟩ := hy
  obtain ⟨g1, g2, g3, g4⟩ := good_rest (ownX l n).length
  rw [List.mem_append] at hx
  rcases hx with hx | hx
  · rcases rawO_mem l n x hx with ⟨v, rfl⟩ | rfl | rfl | rfl
    · exact good_set _ _ _
    · exact g1
    · exact g2
    · exact g3
  · obtain rfl := List.mem_singleton.mp hx
    exact g4
/-! ### the run -/
def wrO (l : List Int) (n : Nat) : List S82 := (List.range n).map fun k : Nat => (⟨0, l.getD k 0⟩ : S82)
theorem wrO_succ (l : List Int) (n : Nat) : wrO l (n + 1) = wrO l n ++ [⟨0, l.getD n 0⟩] := by simp [wrO, List.range_succ]
theorem wrO_len (l : List Int) (n : Nat) : (wrO l n).length = n := by simp [wrO]
theorem seen_last (l : List Int) (n : Nat) (u : Int) : seenS (wrO l (n + 1)) 0 u = l.getD n 0 := by
  have h : findN (wrO l (n + 1)) 0 (wrO l (n + 1)).length = (l.getD n 0, true) := by
    rw [wrO_len]
    have e : rd_T82 (wrO l (n + 1)) (n : Int) = ⟨0, l.getD n 0⟩ := by
      unfold rd_T82
      rw [Int.toNat_natCast, wrO_succ, List.getD_eq_getElem?_getD, List.getElem?_append_right (by rw [wrO_len]; exact Nat.le_refl _), wrO_len, Nat.sub_self]
      rfl
    unfold findN
    rw [e, if_pos rfl]
  unfold seenS
  rw [h, if_pos rfl]
/-- The machine after some steps. -/
structure OwnM (l : List Int) (n : Nat) (M : Mch) (j : Nat) : Prop where
  cells : M.cells = [77]
  thr : ∃ r0 r1, U64 r0 ∧ U64 r1 ∧ (j % 4 = 1 → r0 = l.getD (j / 4) 0) ∧ (j % 4 = 3 → r1 = l.getD (j / 4) 0) ∧ M.thr = [⟨ownX l n, j, r0 :: r1 :: List.replicate 6 0, wrO l (if j % 4 < 2 then j / 4 else j / 4 + 1), l.take (j / 4), false⟩]
theorem own_init (l : List Int) (n : Nat) : OwnM l n ⟨firstS 1 1 [77], [initThr (ownX l n)], 0⟩ 0 :=
  ⟨rfl, 0, 0, ⟨by decide, by decide⟩, ⟨by decide, by decide⟩, (fun h => by omega), (fun h => by omega), rfl⟩
theorem own_regs {r0 r1 : Int} (h0 : U64 r0) (h1 : U64 r1) : ∀ v ∈ r0 :: r1 :: List.replicate 6 0, U64 v := by
  intro v hv
  rcases List.mem_cons.mp hv with rfl | hv
  · exact h0
  · rcases List.mem_cons.mp hv with rfl | hv
    · exact h1
    · rw [(List.mem_replicate.mp hv).2]; exact ⟨by decide, by decide⟩
theorem cellI_one : cellI 1 0 0 = 0 := by decide
theorem own_step {l : List Int} {n : Nat} (hl : ∀ x ∈ l, U64 x) (hn : n ≤ 10) (hnl : n ≤ l.length) {M : Mch} {j : Nat} (h : OwnM l n M j) (hj : j < 4 * n) : Fits M ∧ OwnM l n (stepF M 0).1 (j + 1) := by
  obtain ⟨cells, thr, steps⟩ := M
  obtain ⟨hc, r0, r1, hr0, hr1, hrv, hrw, ht⟩ := h
  simp only at hc ht
  subst hc ht
  have hU := own_regs hr0 hr1
  have hx := ownX_at l n (j / 4) (j % 4) (by omega) (by omega)
  rw [show 4 * (j / 4) + j % 4 = j by omega] at hx
  have hv := getD_u64 hl (j / 4)
  have hout : (l.take (j / 4)).length ≤ 4194304 := by rw [List.length_take]; omega
  have hji : (j : Int) < 1000000 := by omega
  have h4 : j % 4 = 0 ∨ j % 4 = 1 ∨ j % 4 = 2 ∨ j % 4 = 3 := by omega
  rcases h4 with h4 | h4 | h4 | h4
  · rw [h4] at hx
    replace hx : (ownX l n)[j]? = some (bareX (setC (l.getD (j / 4) 0))) := hx
    simp only [h4]
    refine ⟨fun t ht _ => ?_, ?_⟩
    · obtain rfl := List.mem_singleton.mp ht
      exact ⟨_, hx, ⟨Or.inl rfl, (fun _ => ⟨Int.le_refl 0, show (0 : Int) < 8 by decide⟩), hv, hU, (fun _ => show 0 < 1 by decide), (show 1 ≤ 1048576 by decide), (by show (wrO l (j / 4)).length ≤ _; rw [wrO_len]; omega), hout, ⟨Int.natCast_nonneg _, hji⟩⟩⟩
    · have e : stepF ⟨[77], [⟨ownX l n, j, r0 :: r1 :: List.replicate 6 0, wrO l (j / 4), l.take (j / 4), false⟩], steps⟩ 0 = (⟨[77], [⟨ownX l n, ((j + 1 : Nat) : Int), l.getD (j / 4) 0 :: r1 :: List.replicate 6 0, wrO l (j / 4), l.take (j / 4), false⟩], wrap64 (steps + 1)⟩, 6, 0, false) := by
        unfold stepF
        simp only [List.getElem?_cons_zero, Int.toNat_natCast, hx]
        rfl
      show OwnM l n (stepF ⟨[77], [⟨ownX l n, j, r0 :: r1 :: List.replicate 6 0, wrO l (j / 4), l.take (j / 4), false⟩], steps⟩ 0).1 (j + 1)
      rw [e]
      refine ⟨rfl, _, _, hv, hr1, (fun _ => by rw [show (j + 1) / 4 = j / 4 by omega]), (fun h => by omega), ?_⟩
      rw [show (j + 1) / 4 = j / 4 by omega, if_pos (by omega)]
  · rw [h4] at hx
    replace hx : (ownX l n)[j]? = some (bareX put0) := hx
    obtain rfl := hrv h4
    simp only [h4]
    refine ⟨fun t ht _ => ?_, ?_⟩
    · obtain rfl := List.mem_singleton.mp ht
      exact ⟨_, hx, ⟨Or.inr (Or.inr (Or.inr (Or.inl rfl))), (fun h => by rw [bare_put0] at h; simp at h), ⟨Int.le_refl 0, show (0 : Int) < 18446744073709551616 by decide⟩, hU, (fun _ => show 0 < 1 by decide), (show 1 ≤ 1048576 by decide), (by show (wrO l (j / 4)).length ≤ _; rw [wrO_len]; omega), hout, ⟨Int.natCast_nonneg _, hji⟩⟩⟩
    · have e : stepF ⟨[77], [⟨ownX l n, j, l.getD (j / 4) 0 :: r1 :: List.replicate 6 0, wrO l (j / 4), l.take (j / 4), false⟩], steps⟩ 0 = (⟨[77], [⟨ownX l n, ((j + 1 : Nat) : Int), l.getD (j / 4) 0 :: r1 :: List.replicate 6 0, wrO l (j / 4) ++ [⟨((cellI 1 0 0 : Nat) : Int), l.getD (j / 4) 0⟩], l.take (j / 4), false⟩], wrap64 (steps + 1)⟩, 3, ((cellI 1 0 0 : Nat) : Int), false) := by
        unfold stepF
        simp only [List.getElem?_cons_zero, Int.toNat_natCast, hx]
        rfl
      show OwnM l n (stepF ⟨[77], [⟨ownX l n, j, l.getD (j / 4) 0 :: r1 :: List.replicate 6 0, wrO l (j / 4), l.take (j / 4), false⟩], steps⟩ 0).1 (j + 1)
      rw [e, cellI_one, Int.natCast_zero, ← wrO_succ]
      refine ⟨rfl, _, _, hr0, hr1, (fun h => by omega), (fun h => by omega), ?_⟩
      rw [show (j + 1) / 4 = j / 4 by omega, if_neg (by omega)]
  · rw [h4] at hx
    replace hx : (ownX l n)[j]? = some (bareX read1) := hx
    simp only [h4]
    refine ⟨fun t ht _ => ?_, ?_⟩
    · obtain rfl := List.mem_singleton.mp ht
      exact ⟨_, hx, ⟨Or.inr (Or.inr (Or.inl rfl)), (fun _ => ⟨show (0 : Int) ≤ 1 by decide, show (1 : Int) < 8 by decide⟩), ⟨Int.le_refl 0, show (0 : Int) < 18446744073709551616 by decide⟩, hU, (fun _ => show 0 < 1 by decide), (show 1 ≤ 1048576 by decide), (by show (wrO l (j / 4 + 1)).length ≤ _; rw [wrO_len]; omega), hout, ⟨Int.natCast_nonneg _, hji⟩⟩⟩
    · have e : stepF ⟨[77], [⟨ownX l n, j, r0 :: r1 :: List.replicate 6 0, wrO l (j / 4 + 1), l.take (j / 4), false⟩], steps⟩ 0 = (⟨[77], [⟨ownX l n, ((j + 1 : Nat) : Int), r0 :: seenS (wrO l (j / 4 + 1)) ((cellI 1 0 0 : Nat) : Int) 77 :: List.replicate 6 0, wrO l (j / 4 + 1), l.take (j / 4), false⟩], wrap64 (steps + 1)⟩, 2, ((cellI 1 0 0 : Nat) : Int), (findN (wrO l (j / 4 + 1)) ((cellI 1 0 0 : Nat) : Int) (wrO l (j / 4 + 1)).length).2) := by
        unfold stepF
        simp only [List.getElem?_cons_zero, Int.toNat_natCast, hx]
        rfl
      show OwnM l n (stepF ⟨[77], [⟨ownX l n, j, r0 :: r1 :: List.replicate 6 0, wrO l (j / 4 + 1), l.take (j / 4), false⟩], steps⟩ 0).1 (j + 1)
      rw [e, cellI_one, Int.natCast_zero, seen_last]
      refine ⟨rfl, _, _, hr0, hv, (fun h => by omega), (fun h => by rw [show (j + 1) / 4 = j / 4 by omega]), ?_⟩
      rw [show (j + 1) / 4 = j / 4 by omega, if_neg (by omega)]
  · rw [h4] at hx
    replace hx : (ownX l n)[j]? = some (bareX tell1) := hx
    obtain rfl := hrw h4
    simp only [h4]
    refine ⟨fun t ht _ => ?_, ?_⟩
    · obtain rfl := List.mem_singleton.mp ht
      exact ⟨_, hx, ⟨by rw [bare_tell1]; simp, (fun h => by rw [bare_tell1] at h; simp at h), ⟨Int.le_refl 0, show (0 : Int) < 18446744073709551616 by decide⟩, hU, (fun _ => show 0 < 1 by decide), (show 1 ≤ 1048576 by decide), (by show (wrO l (j / 4 + 1)).length ≤ _; rw [wrO_len]; omega), hout, ⟨Int.natCast_nonneg _, hji⟩⟩⟩
    · have e : stepF ⟨[77], [⟨ownX l n, j, r0 :: l.getD (j / 4) 0 :: List.replicate 6 0, wrO l (j / 4 + 1), l.take (j / 4), false⟩], steps⟩ 0 = (⟨[77], [⟨ownX l n, ((j + 1 : Nat) : Int), r0 :: l.getD (j / 4) 0 :: List.replicate 6 0, wrO l (j / 4 + 1), l.take (j / 4) ++ [l.getD (j / 4) 0], false⟩], wrap64 (steps + 1)⟩, 6, 0, false) := by
        unfold stepF
        simp only [List.getElem?_cons_zero, Int.toNat_natCast, hx]
        rfl
      have ho : l.take (j / 4) ++ [l.getD (j / 4) 0] = l.take (j / 4 + 1) := by
        rw [List.take_add_one, List.getD_eq_getElem?_getD, List.getElem?_eq_getElem (by omega)]; rfl
      show OwnM l n (stepF ⟨[77], [⟨ownX l n, j, r0 :: l.getD (j / 4) 0 :: List.replicate 6 0, wrO l (j / 4 + 1), l.take (j / 4), false⟩], steps⟩ 0).1 (j + 1)
      rw [e, ho]
      refine ⟨rfl, _, _, hr0, hr1, (fun h => by omega), (fun h => by omega), ?_⟩
      rw [show (j + 1) / 4 = j / 4 + 1 by omega, if_pos (by omega)]
/-- The machine after all steps and some flushes. -/
structure OwnW (l : List Int) (n : Nat) (M : Mch) (i : Nat) : Prop where
  cells : M.cells = [if i = 0 then 77 else l.getD (i - 1) 0]
  thr : ∃ r0 r1, U64 r0 ∧ U64 r1 ∧ M.thr = [⟨ownX l n, (4 * n : Nat), r0 :: r1 :: List.replicate 6 0, (wrO l n).drop i, l.take n, false⟩]
theorem own_all {l : List Int} {n : Nat} {M : Mch} (h : OwnM l n M (4 * n)) : OwnW l n M 0 := by
  obtain ⟨hc, r0, r1, hr0, hr1, _, _, ht⟩ := h
  rw [show 4 * n / 4 = n by omega, if_pos (by omega)] at ht
  exact ⟨hc, r0, r1, hr0, hr1, ht⟩
theorem own_wr {l : List Int} {n : Nat} (hn : n ≤ 10) {M : Mch} {i : Nat} (h : OwnW l n M i) : ∀ t ∈ M.thr, t.wr.length ≤ 4194304 ∧ ∀ x ∈ t.wr, 0 ≤ x.f0 ∧ x.f0 < M.cells.length := by
  obtain ⟨hc, r0, r1, hr0, hr1, ht⟩ := h
  rw [ht, hc]
  intro t hm
  obtain rfl := List.mem_singleton.mp hm
  refine ⟨by show ((wrO l n).drop i).length ≤ _; rw [List.length_drop, wrO_len]; omega, fun x hx => ?_⟩
  have := List.mem_of_mem_drop hx
  simp only [wrO, List.mem_map, List.mem_range] at this
  obtain ⟨k, hk, rfl⟩ := this
  exact ⟨Int.le_refl 0, show (0 : Int) < 1 by decide⟩
theorem own_flush {l : List Int} {n : Nat} {M : Mch} {i : Nat} (h : OwnW l n M i) (hi : i < n) : OwnW l n (flushF M 0).1 (i + 1) := by
  obtain ⟨cells, thr, steps⟩ := M
  obtain ⟨hc, r0, r1, hr0, hr1, ht⟩ := h
  simp only at hc ht
  subst ht
  have hd : (wrO l n).drop i = ⟨0, l.getD i 0⟩ :: (wrO l n).drop (i + 1) := by
    rw [List.drop_eq_getElem_cons (by rw [wrO_len]; exact hi)]
    simp [wrO]
  unfold flushF
  simp only [List.getElem?_cons_zero, hd]
  refine ⟨?_, r0, r1, hr0, hr1, rfl⟩
  rw [if_neg (by omega), hc]
  rfl
theorem own_halt {l : List Int} {n : Nat} (hl : ∀ x ∈ l, U64 x) (hn : n ≤ 10) {M : Mch} {i : Nat} (h : OwnW l n M i) (hi : i ≤ n) :
    Fits M ∧ ∃ M' kind hit t', stepF M 0 = (M', kind, 0, hit) ∧ M'.cells = [if i = 0 then 77 else l.getD (i - 1) 0] ∧ M'.thr = [t'] ∧ t'.rs.length = 8 ∧ (if i = n then kind = 6 ∧ t'.halted = true else kind = 0 ∧ t'.halted = false) := by
  obtain ⟨cells, thr, steps⟩ := M
  obtain ⟨hc, r0, r1, hr0, hr1, ht⟩ := h
  simp only at hc ht
  subst hc ht
  have hx := ownX_end l n
  have hU := own_regs hr0 hr1
  have hw : ((wrO l n).drop i).length = n - i := by rw [List.length_drop, wrO_len]
  have hout : (l.take n).length ≤ 4194304 := by rw [List.length_take]; omega
  refine ⟨fun t ht _ => ?_, ?_⟩
  · obtain rfl := List.mem_singleton.mp ht
    refine ⟨_, hx, ⟨(by rw [bare_halt0]; simp), (fun h => by rw [bare_halt0] at h; simp at h), ⟨Int.le_refl 0, show (0 : Int) < 18446744073709551616 by decide⟩, hU, (fun _ => show 0 < 1 by decide), (show 1 ≤ 1048576 by decide), (by show ((wrO l n).drop i).length ≤ _; rw [hw]; omega), hout, ⟨Int.natCast_nonneg _, ?_⟩⟩⟩
    show ((4 * n : Nat) : Int) < 1000000
    omega
  · unfold stepF
    simp only [List.getElem?_cons_zero, Int.toNat_natCast, hx, hw, bare_halt0]
    by_cases he : i = n
    · subst he
      rw [Nat.sub_self]
      refine ⟨_, _, _, _, rfl, rfl, rfl, rfl, ?_⟩
      rw [if_pos rfl]
      exact ⟨rfl, rfl⟩
    · have : 0 < n - i := by omega
      simp only [if_neg he, this, and_true, if_true]
      exact ⟨_, _, _, _, rfl, rfl, rfl, rfl, rfl, rfl⟩
/-- Lists that are the same are the same. -/
theorem same_loop (l : List Int) (hl : l.length ≤ 9223372036854775807) : ∀ (m j : Nat), j + m = l.length → Ev (fun k => tautochronelaw11_Same.l0 k l l (l.length : Int) (j : Int)) true := by
  intro m
  induction m with
  | zero =>
    intro j hj
    refine Ev.step (fun k => rfl) ?_
    exact Ev.neg (by omega) (Ev.done rfl)
  | succ m ih =>
    intro j hj
    refine Ev.step (fun k => rfl) ?_
    refine Ev.pos (by omega) (Ev.pos (by omega) (Ev.pos (by omega) (Ev.pos (by omega) (Ev.pos rfl ?_))))
    have e2 : wrap64 ((j : Int) + 1) = ((j + 1 : Nat) : Int) := by rw [wrap_in (by omega) (by omega)]; rfl
    rw [e2]
    exact ih (j + 1) (by omega)
theorem same_ev (l : List Int) (hl : l.length ≤ 9223372036854775807) : ∃ k, tautochronelaw11_Same.f k l l = some true := by
  obtain ⟨k, hk⟩ := Ev.rounds (same_loop l hl l.length 0 (by omega))
  exact ⟨k, by unfold tautochronelaw11_Same.f; rw [if_pos rfl]; exact hk⟩
end Go.Proofs.Ytaenjbhhpdmhgaa.Tso
