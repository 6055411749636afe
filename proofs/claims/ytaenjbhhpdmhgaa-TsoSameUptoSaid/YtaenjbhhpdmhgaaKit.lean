/-
What stands here: small plain lemmas that the plain proofs of this seat share (rounds that suffice, tests decided, reads of lists). No program, no memory.
-/
import Derived.Test.YtaenjbhhpdmhgaaWWords
import Derived.Test.YtaenjbhhpdmhgaaWSized
import Derived.Test.YtaenjbhhpdmhgaaWords2
import Derived.Laws.Bits64b
namespace Go.Proofs.Ytaenjbhhpdmhgaa.Kit
open Go.RowKit Go.Proofs.YtaenjbhhpdmhgaaW.PrintWords Go.Proofs.YtaenjbhhpdmhgaaW.PrintMore

theorem Ev.pos {α : Type} {c : Prop} [Decidable c] {A B : Nat → Option α} {r : α} (h : c) (k : Ev A r) : Ev (fun n => if c then A n else B n) r := by
  simpa only [if_pos h] using k
theorem Ev.neg {α : Type} {c : Prop} [Decidable c] {A B : Nat → Option α} {r : α} (h : ¬ c) (k : Ev B r) : Ev (fun n => if c then A n else B n) r := by
  simpa only [if_neg h] using k
theorem Ev.done {α : Type} {a r : α} (h : a = r) : Ev (fun _ => some a) r := h ▸ Ev.now a
theorem Ev.pure {α β : Type} {a : Option α} {x : α} {f : Nat → α → Option β} {r : β} (h : a = some x) (k : Ev (fun n => f n x) r) : Ev (fun n => a.bind (f n)) r := by
  subst h; exact k
theorem Ev.at_ {α : Type} {g : Nat → Option α} {r : α} (h : ∃ K, ∀ k, K ≤ k → g k = some r) : Ev g r := h

theorem wrap_in {x : Int} (h0 : -9223372036854775808 ≤ x) (h1 : x ≤ 9223372036854775807) : wrap64 x = x := by
  unfold wrap64; omega

theorem rd_get (xs : List Int) (i : Nat) (h : i < xs.length) : rd xs (i : Int) = xs[i] := by
  simp [rd, List.getD_eq_getElem?_getD, List.getElem?_eq_getElem h]
theorem wf_bounds_u64 {x : Int} (h : (Lit.int .u64 x).wf = true) : 0 ≤ x ∧ x ≤ 18446744073709551615 := by
  simpa [Lit.wf, IntKind.min, IntKind.max, IntKind.signed, IntKind.bits] using h
theorem wf_bounds_i8 {x : Int} (h : (Lit.int .i8 x).wf = true) : -128 ≤ x ∧ x ≤ 127 := by
  simpa [Lit.wf, IntKind.min, IntKind.max, IntKind.signed, IntKind.bits] using h
end Go.Proofs.Ytaenjbhhpdmhgaa.Kit

/- The printed rows name this lemma so. -/
namespace Go.Proofs.Ytaenjbhhpdmhgaa.PrintWords
open Go.ChangeShapes Go.WideShapes
end Go.Proofs.Ytaenjbhhpdmhgaa.PrintWords
