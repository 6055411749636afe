/-
What TsoLocks keeps, plainly. Conditions: as each theorem states them.
-/
import Derived.Test.YtaenjbhhpdmhgaaMTsO
import Derived.Test.YtaenjbhhpdmhgaaMTsM
set_option linter.unusedVariables false
set_option linter.unusedSimpArgs false
namespace Go.Proofs.Ytaenjbhhpdmhgaa.Tso
open Go.RowKit Go.Proofs.YtaenjbhhpdmhgaaW.PrintWords Go.Proofs.YtaenjbhhpdmhgaaW.PrintLast Go.Proofs.YtaenjbhhpdmhgaaW.PrintMore
open Go.Proofs.Ytaenjbhhpdmhgaa.Kit
open Go.Proofs.Ytaenjbhhpdmhgaa.PTsoScript
def rawLock : List S28 := [⟨8, 0, 0, 0, 0, 0, 0, 0⟩, ⟨9, 0, 0, 0, 0, 0, 0, 0⟩, ⟨6, 0, 0, 0, 0, 0, 0, 0⟩]
def lockX : List S28 := rawLock.map bareX
/-- A thread of locks: where it stands, and that it has no more than one write. -/
structure LockT (t : Thr) : Prop where
  codes : t.codes = lockX
  rs : t.rs = List.replicate 8 0
  out : t.out = []
  halted : t.halted = false
  at_ : (t.at_ = 0 ∧ (t.wr = [] ∨ t.wr = [⟨0, 0⟩])) ∨ (t.at_ = 1 ∧ t.wr = []) ∨ (t.at_ = 2 ∧ (t.wr = [] ∨ t.wr = [⟨0, 0⟩]))
def LockM (M : Mch) (held : Bool) : Prop := M.cells = [if held then 1 else 0] ∧ M.thr.length = 3 ∧ ∀ t ∈ M.thr, LockT t
theorem lock_init : LockM ⟨[0], [initThr lockX, initThr lockX, initThr lockX], 0⟩ false := by
  refine ⟨rfl, rfl, fun t ht => ?_⟩
  have : t = initThr lockX := by simpa using ht
  subst this
  exact ⟨rfl, rfl, rfl, rfl, Or.inl ⟨rfl, Or.inl rfl⟩⟩
theorem lock_fits {M : Mch} {held : Bool} (h : LockM M held) : Fits M := by
  obtain ⟨hc, _, ht⟩ := h
  intro t hm _
  obtain ⟨c, r, o, hh, ha⟩ := ht t hm
  obtain ⟨codes, at_, rs, wr, out, hd⟩ := t
  simp only at c r o hh ha
  subst c r o hh
  rw [hc]
  rcases ha with ⟨rfl, rfl | rfl⟩ | ⟨rfl, rfl⟩ | ⟨rfl, rfl | rfl⟩ <;> cases held <;> exact ⟨_, rfl, fit_of (by decide)⟩
theorem lock_set {M : Mch} {held held' : Bool} {k : Nat} {t' : Thr} {cells' : List Int} {n : Int} (h : LockM M held) (hc : cells' = [if held' then 1 else 0]) (ht : LockT t') : LockM ⟨cells', M.thr.set k t', n⟩ held' := by
  refine ⟨hc, by simp [h.2.1], fun t hm => ?_⟩
  rcases List.mem_or_eq_of_mem_set hm with h1 | h1
  · exact h.2.2 t h1
  · rw [h1]; exact ht
/-- What the law's variable is after an event. -/
def heldF (held : Bool) (kind : Int) (hit : Bool) : Bool := (held && (kind != 4)) || ((kind == 5) && hit)
theorem lock_flush {M : Mch} {held : Bool} (h : LockM M held) (k : Nat) : LockM (flushF M k).1 (heldF held (flushF M k).2.1 (flushF M k).2.2.2) ∧ ((flushF M k).2.1 = 5 → (flushF M k).2.2.2 = !held) := by
  unfold flushF
  cases hk : M.thr[k]? with
  | none => exact ⟨by simpa [heldF] using h, fun e => by simp at e⟩
  | some t =>
    have hm : t ∈ M.thr := List.mem_of_getElem? hk
    have hT := h.2.2 t hm
    cases hw : t.wr with
    | nil => simp only [hw]; exact ⟨by simpa [heldF] using h, fun e => by simp at e⟩
    | cons x l =>
      have hx : x = ⟨0, 0⟩ ∧ l = [] ∧ t.at_ ≠ 1 := by
        rcases hT.at_ with ⟨a, b | b⟩ | ⟨a, b⟩ | ⟨a, b | b⟩ <;> rw [hw] at b <;> first | (cases b; done) | (injection b with b1 b2; exact ⟨b1, b2, by omega⟩)
      obtain ⟨rfl, rfl, ha⟩ := hx
      simp only [hw]
      refine ⟨?_, fun e => by simp at e⟩
      have e : heldF held 4 false = false := by simp [heldF]
      rw [e]
      refine lock_set h (by rw [h.1]; rfl) ⟨hT.codes, hT.rs, hT.out, hT.halted, ?_⟩
      rcases hT.at_ with ⟨a, _⟩ | ⟨a, _⟩ | ⟨a, _⟩
      · exact Or.inl ⟨a, Or.inl rfl⟩
      · exact absurd a ha
      · exact Or.inr (Or.inr ⟨a, Or.inl rfl⟩)
theorem lock_step {M : Mch} {held : Bool} (h : LockM M held) (k : Nat) : LockM (stepF M k).1 (heldF held (stepF M k).2.1 (stepF M k).2.2.2) ∧ ((stepF M k).2.1 = 5 → (stepF M k).2.2.2 = !held) := by
  unfold stepF
  cases hk : M.thr[k]? with
  | none => exact ⟨by simpa [heldF] using h, fun e => by simp at e⟩
  | some t =>
    have hm : t ∈ M.thr := List.mem_of_getElem? hk
    obtain ⟨c, r, o, hh, ha⟩ := h.2.2 t hm
    obtain ⟨codes, at_, rs, wr, out, hd⟩ := t
    simp only at c r o hh ha
    subst c r o hh
    rcases ha with ⟨rfl, rfl | rfl⟩ | ⟨rfl, rfl⟩ | ⟨rfl, rfl | rfl⟩
    · cases held <;> rw [h.1] <;> refine ⟨lock_set h rfl ⟨rfl, rfl, rfl, rfl, ?_⟩, fun _ => rfl⟩
      · exact Or.inr (Or.inl ⟨rfl, rfl⟩)
      · exact Or.inl ⟨rfl, Or.inl rfl⟩
    · cases held <;> exact ⟨h, fun e => absurd (show (0 : Int) = 5 from e) (by decide)⟩
    · cases held <;> rw [h.1] <;> exact ⟨lock_set h rfl ⟨rfl, rfl, rfl, rfl, Or.inr (Or.inr ⟨rfl, Or.inr rfl⟩)⟩, fun e => absurd (show (3 : Int) = 5 from e) (by decide)⟩
    · cases held <;> rw [h.1] <;> exact ⟨lock_set h rfl ⟨rfl, rfl, rfl, rfl, Or.inl ⟨rfl, Or.inl rfl⟩⟩, fun e => absurd (show (1 : Int) = 5 from e) (by decide)⟩
    · cases held <;> rw [h.1] <;> exact ⟨lock_set h rfl ⟨rfl, rfl, rfl, rfl, Or.inl ⟨rfl, Or.inr rfl⟩⟩, fun e => absurd (show (1 : Int) = 5 from e) (by decide)⟩
end Go.Proofs.Ytaenjbhhpdmhgaa.Tso
