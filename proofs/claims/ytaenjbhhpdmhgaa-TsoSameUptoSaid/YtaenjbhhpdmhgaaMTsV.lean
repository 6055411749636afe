/-
What the machine of TsoFence does, plainly. Conditions: as each theorem states them.
-/
import Derived.Test.YtaenjbhhpdmhgaaMTsO
import Derived.Test.YtaenjbhhpdmhgaaMTsM
set_option linter.unusedVariables false
set_option linter.unusedSimpArgs false
namespace Go.Proofs.Ytaenjbhhpdmhgaa.Tso
open Go.RowKit Go.Proofs.YtaenjbhhpdmhgaaW.PrintWords Go.Proofs.YtaenjbhhpdmhgaaW.PrintLast Go.Proofs.YtaenjbhhpdmhgaaW.PrintMore
open Go.Proofs.Ytaenjbhhpdmhgaa.Kit
open Go.Proofs.Ytaenjbhhpdmhgaa.PTsoScript
def setC (v : Int) : S28 := ⟨0, 0, 0, 0, 0, 0, v, 0⟩
def putC (k : Nat) : S28 := ⟨5, 0, 0, -1, 0, 0, k, 0⟩
/-- The codes before they are bared: two for each value. -/
def rawF (l : List Int) : Nat → List S28
  | 0 => []
  | n + 1 => rawF l n ++ [setC (l.getD n 0), putC n]
def endF : List S28 := [⟨11, 0, 0, 0, 0, 0, 0, 0⟩, ⟨13, 0, 0, 0, 0, 0, 0, 0⟩]
def fenX (l : List Int) (n : Nat) : List S28 := (rawF l n ++ endF).map bareX
theorem bare_setC (v : Int) : bareX (setC v) = ⟨0, 0, 0, -1, -1, -1, v, 0⟩ := rfl
/-- A code that may stand in codes of n of an image of c cells. -/
def goodX (n : Nat) (c : Int) (x : S28) : Prop := Pure.gcX n x ∧ Pure.okX x ∧ Pure.inS c x
theorem good_set (v : Int) (n : Nat) (c : Int) : goodX n c (bareX (setC v)) := by
  rw [bare_setC]
  refine ⟨?_, ?_, ?_⟩
  · simp [Pure.gcX, Pure.gcS, Pure.U16, Pure.usesS]
  · simp [Pure.okX, Pure.MayS, Pure.IsBare, Pure.bareS, Pure.usesS]
  · simp [Pure.inS]
theorem th_of {c : Int} {t : List S28} {x : S28} (h0 : t.length ≤ 4096) (hlast : t[t.length - 1]? = some x) (hx : x.f0 = 13) (hall : ∀ y ∈ t, goodX t.length c y) : Pure.thS c t := by
  have hpos : 0 < t.length := by
    rcases Nat.eq_zero_or_pos t.length with h | h
    · rw [List.getElem?_eq_none (by omega)] at hlast; cases hlast
    · exact h
  refine ⟨⟨by omega, h0, Or.inl ?_, fun y hy => (hall y hy).1⟩, fun y hy => (hall y hy).2⟩
  unfold Pure.lastS
  rw [show (t.length : Int) - 1 = ((t.length - 1 : Nat) : Int) by omega, Pure.rdT_at _ _ (by omega)]
  obtain ⟨h1, h2⟩ := List.getElem?_eq_some_iff.mp hlast
  rw [h2, hx]
/-! ### the run -/
def wrF (l : List Int) (n : Nat) : List S82 := (List.range n).map fun k : Nat => (⟨(k : Int), l.getD k 0⟩ : S82)
/-- The machine after some steps. -/
structure FenM (l : List Int) (n : Nat) (M : Mch) (j : Nat) : Prop where
  cells : M.cells = List.replicate 8 0
  thr : ∃ r0, U64 r0 ∧ (j % 2 = 1 → r0 = l.getD (j / 2) 0) ∧ M.thr = [⟨fenX l n, j, r0 :: List.replicate 7 0, wrF l (j / 2), [], false⟩]
theorem getD_u64 {l : List Int} (hl : ∀ x ∈ l, U64 x) (i : Nat) : U64 (l.getD i 0) := by
  rcases Nat.lt_or_ge i l.length with h | h
  · rw [getD_at h]; exact hl _ (List.getElem_mem h)
  · rw [List.getD_eq_getElem?_getD, List.getElem?_eq_none h]; exact ⟨by decide, by decide⟩
/-- The machine after all steps and some flushes. -/
structure FenW (l : List Int) (n : Nat) (M : Mch) (i : Nat) : Prop where
  cells : M.cells.length = 8
  thr : ∃ r0, U64 r0 ∧ M.thr = [⟨fenX l n, (2 * n : Nat), r0 :: List.replicate 7 0, (wrF l n).drop i, [], false⟩]
end Go.Proofs.Ytaenjbhhpdmhgaa.Tso
