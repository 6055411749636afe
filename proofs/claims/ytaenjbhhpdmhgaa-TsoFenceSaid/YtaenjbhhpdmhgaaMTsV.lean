/-
What the machine of TsoFence does, plainly. Conditions: as each theorem states them.
-/
import Derived.Test.YtaenjbhhpdmhgaaMTsO
import Derived.Test.YtaenjbhhpdmhgaaMTsM
set_option linter.unusedVariables false
set_option linter.unusedSimpArgs false
namespace Go.Proofs.Ytaenjbhhpdmhgaa.Tso
open Go.RowKit Go.Proofs.YtaenjbhhpdmhgaaW.PrintWords Go.Proofs.YtaenjbhhpdmhgaaW.PrintLast Go.Proofs.YtaenjbhhpdmhgaaW.PrintMore
open Go.Proofs.Ytaenjbhhpdmhgaa.Kit
open Go.Proofs.Ytaenjbhhpdmhgaa.PTsoScript
def setC (v : Int) : S28 := ⟨0, 0, 0, 0, 0, 0, v, 0⟩
def putC (k : Nat) : S28 := ⟨5, 0, 0, -1, 0, 0, k, 0⟩
/-- The codes before they are bared: two for each value. -/
def rawF (l : List Int) : Nat → List S28
  | 0 => []
  | n + 1 => rawF l n ++ [setC (l.getD n 0), putC n]
def endF : List S28 := [⟨11, 0, 0, 0, 0, 0, 0, 0⟩, ⟨13, 0, 0, 0, 0, 0, 0, 0⟩]
def fenX (l : List Int) (n : Nat) : List S28 := (rawF l n ++ endF).map bareX
theorem rawF_len (l : List Int) (n : Nat) : (rawF l n).length = 2 * n := by
  induction n with
  | zero => rfl
  | succ n ih => simp [rawF, ih]; omega
theorem rawF_at (l : List Int) (n i : Nat) (h : i < n) : (rawF l n)[2 * i]? = some (setC (l.getD i 0)) ∧ (rawF l n)[2 * i + 1]? = some (putC i) := by
  induction n with
  | zero => omega
  | succ n ih =>
    have hl := rawF_len l n
    unfold rawF
    rcases Nat.lt_or_ge i n with hi | hi
    · rw [List.getElem?_append_left (by omega), List.getElem?_append_left (by omega)]
      exact ih hi
    · obtain rfl : i = n := by omega
      rw [List.getElem?_append_right (by omega), List.getElem?_append_right (by omega), hl, Nat.sub_self, show 2 * i + 1 - 2 * i = 1 by omega]
      exact ⟨rfl, rfl⟩
theorem fenX_len (l : List Int) (n : Nat) : (fenX l n).length = 2 * n + 2 := by simp [fenX, rawF_len, endF]
theorem fenX_at (l : List Int) (n i : Nat) (h : i < n) : (fenX l n)[2 * i]? = some (bareX (setC (l.getD i 0))) ∧ (fenX l n)[2 * i + 1]? = some (bareX (putC i)) := by
  obtain ⟨a, b⟩ := rawF_at l n i h
  have hl := rawF_len l n
  unfold fenX
  rw [List.getElem?_map, List.getElem?_map, List.getElem?_append_left (by omega), List.getElem?_append_left (by omega), a, b]
  exact ⟨rfl, rfl⟩
theorem fenX_end (l : List Int) (n : Nat) : (fenX l n)[2 * n]? = some (bareX ⟨11, 0, 0, 0, 0, 0, 0, 0⟩) ∧ (fenX l n)[2 * n + 1]? = some (bareX ⟨13, 0, 0, 0, 0, 0, 0, 0⟩) := by
  have hl := rawF_len l n
  unfold fenX
  rw [List.getElem?_map, List.getElem?_map, List.getElem?_append_right (by omega), List.getElem?_append_right (by omega), hl, Nat.sub_self, show 2 * n + 1 - 2 * n = 1 by omega]
  exact ⟨rfl, rfl⟩
theorem rawF_mem (l : List Int) (n : Nat) : ∀ x ∈ rawF l n, (∃ i, i < n ∧ x = setC (l.getD i 0)) ∨ ∃ i, i < n ∧ x = putC i := by
  induction n with
  | zero => intro x hx; cases hx
  | succ n ih =>
    intro x hx
    unfold rawF at hx
    rw [List.mem_append] at hx
    rcases hx with hx | hx
    · rcases ih x hx with ⟨i, hi, e⟩ | ⟨i, hi, e⟩
      · exact Or.inl ⟨i, by omega, e⟩
      · exact Or.inr ⟨i, by omega, e⟩
    · simp only [List.mem_cons, List.not_mem_nil, or_false] at hx
      rcases hx with rfl | rfl
      · exact Or.inl ⟨n, by omega, rfl⟩
      · exact Or.inr ⟨n, by omega, rfl⟩
theorem bare_setC (v : Int) : bareX (setC v) = ⟨0, 0, 0, -1, -1, -1, v, 0⟩ := rfl
theorem bare_putC (k : Nat) : bareX (putC k) = ⟨5, 0, -1, -1, 0, -1, k, 0⟩ := rfl
theorem bare_mend : bareX ⟨11, 0, 0, 0, 0, 0, 0, 0⟩ = ⟨11, 0, -1, -1, -1, -1, 0, 0⟩ := rfl
theorem bare_halt : bareX ⟨13, 0, 0, 0, 0, 0, 0, 0⟩ = ⟨13, 0, -1, -1, -1, -1, 0, 0⟩ := rfl
/-- A code that may stand in codes of n of an image of c cells. -/
def goodX (n : Nat) (c : Int) (x : S28) : Prop := Pure.gcX n x ∧ Pure.okX x ∧ Pure.inS c x
theorem good_set (v : Int) (n : Nat) (c : Int) : goodX n c (bareX (setC v)) := by
  rw [bare_setC]
  refine ⟨?_, ?_, ?_⟩
  · simp [Pure.gcX, Pure.gcS, Pure.U16, Pure.usesS]
  · simp [Pure.okX, Pure.MayS, Pure.IsBare, Pure.bareS, Pure.usesS]
  · simp [Pure.inS]
theorem good_put (k n : Nat) (c : Int) (h : (k : Int) < c) : goodX n c (bareX (putC k)) := by
  rw [bare_putC]
  refine ⟨?_, ?_, ?_⟩
  · simp [Pure.gcX, Pure.gcS, Pure.U16, Pure.usesS]
  · simp [Pure.okX, Pure.MayS, Pure.IsBare, Pure.bareS, Pure.usesS, mx]
  · simpa [Pure.inS] using h
theorem th_of {c : Int} {t : List S28} {x : S28} (h0 : t.length ≤ 4096) (hlast : t[t.length - 1]? = some x) (hx : x.f0 = 13) (hall : ∀ y ∈ t, goodX t.length c y) : Pure.thS c t := by
  have hpos : 0 < t.length := by
    rcases Nat.eq_zero_or_pos t.length with h | h
    · rw [List.getElem?_eq_none (by omega)] at hlast; cases hlast
    · exact h
  refine ⟨⟨by omega, h0, Or.inl ?_, fun y hy => (hall y hy).1⟩, fun y hy => (hall y hy).2⟩
  unfold Pure.lastS
  rw [show (t.length : Int) - 1 = ((t.length - 1 : Nat) : Int) by omega, Pure.rdT_at _ _ (by omega)]
  obtain ⟨h1, h2⟩ := List.getElem?_eq_some_iff.mp hlast
  rw [h2, hx]
theorem fenX_im (l : List Int) (n : Nat) (hn : n ≤ 8) : Pure.imS ((8 : Nat) : Int) ((8 : Nat) : Int) [fenX l n] := by
  refine ⟨by decide, by decide, by decide, by simp, fun t ht => ?_⟩
  obtain rfl : t = fenX l n := by simpa using ht
  have hl := fenX_len l n
  refine th_of (by omega) (x := bareX ⟨13, 0, 0, 0, 0, 0, 0, 0⟩) (by rw [hl, show 2 * n + 2 - 1 = 2 * n + 1 by omega]; exact (fenX_end l n).2) rfl (fun y hy => ?_)
  unfold fenX at hy
  rw [List.mem_map] at hy
  obtain ⟨x, hx, rfl⟩ := hy
  rw [List.mem_append] at hx
  rcases hx with hx | hx
  · rcases rawF_mem l n x hx with ⟨i, hi, rfl⟩ | ⟨i, hi, rfl⟩
    · exact good_set _ _ _
    · exact good_put _ _ _ (by omega)
  · have : ∀ m : Nat, goodX m 8 (bareX ⟨11, 0, 0, 0, 0, 0, 0, 0⟩) ∧ goodX m 8 (bareX ⟨13, 0, 0, 0, 0, 0, 0, 0⟩) := by
      intro m
      rw [bare_mend, bare_halt]
      refine ⟨⟨?_, of_decide_eq_true rfl, of_decide_eq_true rfl⟩, ?_, of_decide_eq_true rfl, of_decide_eq_true rfl⟩ <;> simp [Pure.gcX, Pure.gcS, Pure.U16, Pure.usesS]
    simp only [endF, List.mem_cons, List.not_mem_nil, or_false] at hx
    rcases hx with rfl | rfl
    · exact (this _).1
    · exact (this _).2
/-! ### the run -/
def wrF (l : List Int) (n : Nat) : List S82 := (List.range n).map fun k : Nat => (⟨(k : Int), l.getD k 0⟩ : S82)
theorem wrF_succ (l : List Int) (n : Nat) : wrF l (n + 1) = wrF l n ++ [⟨n, l.getD n 0⟩] := by simp [wrF, List.range_succ]
theorem wrF_len (l : List Int) (n : Nat) : (wrF l n).length = n := by simp [wrF]
/-- The machine after some steps. -/
structure FenM (l : List Int) (n : Nat) (M : Mch) (j : Nat) : Prop where
  cells : M.cells = List.replicate 8 0
  thr : ∃ r0, U64 r0 ∧ (j % 2 = 1 → r0 = l.getD (j / 2) 0) ∧ M.thr = [⟨fenX l n, j, r0 :: List.replicate 7 0, wrF l (j / 2), [], false⟩]
theorem fen_init (l : List Int) (n : Nat) : FenM l n ⟨firstS 8 8 [], [initThr (fenX l n)], 0⟩ 0 := ⟨rfl, 0, ⟨by decide, by decide⟩, (fun h => by omega), rfl⟩
theorem getD_u64 {l : List Int} (hl : ∀ x ∈ l, U64 x) (i : Nat) : U64 (l.getD i 0) := by
  rcases Nat.lt_or_ge i l.length with h | h
  · rw [getD_at h]; exact hl _ (List.getElem_mem h)
  · rw [List.getD_eq_getElem?_getD, List.getElem?_eq_none h]; exact ⟨by decide, by decide⟩
theorem cellI_small (k : Nat) (h : k < 8) : cellI 8 k 0 = k := by
  unfold cellI cellS
  rw [IntKind.wrap_u64]
  omega
theorem fen_step {l : List Int} {n : Nat} (hl : ∀ x ∈ l, U64 x) (hn : n ≤ 8) {M : Mch} {j : Nat} (h : FenM l n M j) (hj : j < 2 * n) : Fits M ∧ FenM l n (stepF M 0).1 (j + 1) := by
  obtain ⟨cells, thr, steps⟩ := M
  obtain ⟨hc, r0, hr0, hrv, ht⟩ := h
  simp only at hc ht
  subst hc ht
  have hU : ∀ v ∈ r0 :: List.replicate 7 0, U64 v := by
    intro v hv
    rcases List.mem_cons.mp hv with rfl | hv
    · exact hr0
    · rw [(List.mem_replicate.mp hv).2]; exact ⟨by decide, by decide⟩
  rcases Nat.mod_two_eq_zero_or_one j with h2 | h2
  · have hx : (fenX l n)[j]? = some (bareX (setC (l.getD (j / 2) 0))) := by
      have := (fenX_at l n (j / 2) (by omega)).1
      rwa [show 2 * (j / 2) = j by omega] at this
    have hv := getD_u64 hl (j / 2)
    refine ⟨fun t ht _ => ?_, ?_⟩
    · obtain rfl := List.mem_singleton.mp ht
      refine ⟨_, hx, ⟨Or.inl rfl, (fun _ => ⟨Int.le_refl 0, show (0 : Int) < 8 by decide⟩), hv, hU, (fun _ => show 0 < 8 by decide), (show 8 ≤ 1048576 by decide), (by show (wrF l (j / 2)).length ≤ _; rw [wrF_len]; omega), Nat.zero_le _, ⟨Int.natCast_nonneg _, ?_⟩⟩⟩
      show (j : Int) < 1000000
      omega
    · have e : stepF ⟨List.replicate 8 0, [⟨fenX l n, j, r0 :: List.replicate 7 0, wrF l (j / 2), [], false⟩], steps⟩ 0 = (⟨List.replicate 8 0, [⟨fenX l n, ((j + 1 : Nat) : Int), l.getD (j / 2) 0 :: List.replicate 7 0, wrF l (j / 2), [], false⟩], wrap64 (steps + 1)⟩, 6, 0, false) := by
        unfold stepF
        simp only [List.getElem?_cons_zero, Int.toNat_natCast, hx]
        rfl
      rw [e]
      refine ⟨rfl, _, hv, fun _ => ?_, ?_⟩
      · rw [show (j + 1) / 2 = j / 2 by omega]
      · rw [show (j + 1) / 2 = j / 2 by omega]
  · have hx : (fenX l n)[j]? = some (bareX (putC (j / 2))) := by
      have := (fenX_at l n (j / 2) (by omega)).2
      rwa [show 2 * (j / 2) + 1 = j by omega] at this
    have hk : j / 2 < 8 := by omega
    have hci := cellI_small (j / 2) hk
    obtain rfl := hrv h2
    refine ⟨fun t ht _ => ?_, ?_⟩
    · obtain rfl := List.mem_singleton.mp ht
      refine ⟨_, hx, ⟨Or.inr (Or.inr (Or.inr (Or.inl rfl))), (fun h => by rw [bare_putC] at h; simp at h), ⟨(by rw [bare_putC]; exact Int.natCast_nonneg _), (by rw [bare_putC]; show ((j / 2 : Nat) : Int) < _; omega)⟩, hU, (fun _ => show 0 < 8 by decide), (show 8 ≤ 1048576 by decide), (by show (wrF l (j / 2)).length ≤ _; rw [wrF_len]; omega), Nat.zero_le _, ⟨Int.natCast_nonneg _, ?_⟩⟩⟩
      show (j : Int) < 1000000
      omega
    · have e : stepF ⟨List.replicate 8 0, [⟨fenX l n, j, l.getD (j / 2) 0 :: List.replicate 7 0, wrF l (j / 2), [], false⟩], steps⟩ 0 = (⟨List.replicate 8 0, [⟨fenX l n, ((j + 1 : Nat) : Int), l.getD (j / 2) 0 :: List.replicate 7 0, wrF l (j / 2) ++ [(⟨((cellI 8 ((j / 2 : Nat) : Int) 0 : Nat) : Int), l.getD (j / 2) 0⟩ : S82)], [], false⟩], wrap64 (steps + 1)⟩, 3, ((cellI 8 ((j / 2 : Nat) : Int) 0 : Nat) : Int), false) := by
        unfold stepF
        simp only [List.getElem?_cons_zero, Int.toNat_natCast, hx]
        rfl
      rw [e, hci, ← wrF_succ]
      refine ⟨rfl, _, hr0, fun h => by omega, ?_⟩
      rw [show (j + 1) / 2 = j / 2 + 1 by omega]
/-- The machine after all steps and some flushes. -/
structure FenW (l : List Int) (n : Nat) (M : Mch) (i : Nat) : Prop where
  cells : M.cells.length = 8
  thr : ∃ r0, U64 r0 ∧ M.thr = [⟨fenX l n, (2 * n : Nat), r0 :: List.replicate 7 0, (wrF l n).drop i, [], false⟩]
theorem fen_all {l : List Int} {n : Nat} {M : Mch} (h : FenM l n M (2 * n)) : FenW l n M 0 := by
  obtain ⟨hc, r0, hr0, _, ht⟩ := h
  rw [show 2 * n / 2 = n by omega] at ht
  exact ⟨by rw [hc]; rfl, r0, hr0, ht⟩
theorem fen_wr {l : List Int} {n : Nat} (hn : n ≤ 8) {M : Mch} {i : Nat} (h : FenW l n M i) : ∀ t ∈ M.thr, t.wr.length ≤ 4194304 ∧ ∀ x ∈ t.wr, 0 ≤ x.f0 ∧ x.f0 < M.cells.length := by
  obtain ⟨hc, r0, hr0, ht⟩ := h
  rw [ht, hc]
  intro t hm
  obtain rfl := List.mem_singleton.mp hm
  refine ⟨by show ((wrF l n).drop i).length ≤ _; rw [List.length_drop, wrF_len]; omega, fun x hx => ?_⟩
  have := List.mem_of_mem_drop hx
  simp only [wrF, List.mem_map, List.mem_range] at this
  obtain ⟨k, hk, rfl⟩ := this
  exact ⟨Int.natCast_nonneg _, by show (k : Int) < ((8 : Nat) : Int); omega⟩
theorem fen_flush {l : List Int} {n : Nat} {M : Mch} {i : Nat} (h : FenW l n M i) (hi : i < n) : FenW l n (flushF M 0).1 (i + 1) := by
  obtain ⟨cells, thr, steps⟩ := M
  obtain ⟨hc, r0, hr0, ht⟩ := h
  simp only at hc ht
  subst ht
  have hd : (wrF l n).drop i = ((wrF l n)[i]'(by rw [wrF_len]; exact hi)) :: (wrF l n).drop (i + 1) := List.drop_eq_getElem_cons _
  unfold flushF
  simp only [List.getElem?_cons_zero, hd]
  exact ⟨by simp [hc], r0, hr0, rfl⟩
theorem fen_mend {l : List Int} {n : Nat} (hl : ∀ x ∈ l, U64 x) (hn : n ≤ 8) {M : Mch} {i : Nat} (h : FenW l n M i) (hi : i ≤ n) :
    Fits M ∧ ∃ M' kind hit t', stepF M 0 = (M', kind, 0, hit) ∧ M'.thr = [t'] ∧ t'.rs.length = 8 ∧ (if i = n then kind = 6 ∧ t'.at_ = (2 * n + 1 : Nat) else kind = 0 ∧ t'.at_ = (2 * n : Nat)) := by
  obtain ⟨cells, thr, steps⟩ := M
  obtain ⟨hc, r0, hr0, ht⟩ := h
  simp only at hc ht
  subst ht
  have hx := (fenX_end l n).1
  have hU : ∀ v ∈ r0 :: List.replicate 7 0, U64 v := by
    intro v hv
    rcases List.mem_cons.mp hv with rfl | hv
    · exact hr0
    · rw [(List.mem_replicate.mp hv).2]; exact ⟨by decide, by decide⟩
  have hw : ((wrF l n).drop i).length = n - i := by rw [List.length_drop, wrF_len]
  refine ⟨fun t ht _ => ?_, ?_⟩
  · obtain rfl := List.mem_singleton.mp ht
    refine ⟨_, hx, ⟨(by rw [bare_mend]; simp), (fun h => by rw [bare_mend] at h; simp at h), ⟨Int.le_refl 0, show (0 : Int) < 18446744073709551616 by decide⟩, hU, (fun _ => by show 0 < cells.length; omega), (by show cells.length ≤ _; omega), (by show ((wrF l n).drop i).length ≤ _; rw [hw]; omega), Nat.zero_le _, ⟨Int.natCast_nonneg _, ?_⟩⟩⟩
    show ((2 * n : Nat) : Int) < 1000000
    omega
  · unfold stepF
    simp only [List.getElem?_cons_zero, Int.toNat_natCast, hx, hw, bare_mend]
    by_cases he : i = n
    · subst he
      rw [Nat.sub_self]
      refine ⟨_, _, _, _, rfl, rfl, rfl, ?_⟩
      rw [if_pos rfl]
      exact ⟨rfl, rfl⟩
    · have : 0 < n - i := by omega
      simp only [if_neg he, this, and_true, if_true]
      exact ⟨_, _, _, _, rfl, rfl, rfl, rfl, rfl⟩
end Go.Proofs.Ytaenjbhhpdmhgaa.Tso
