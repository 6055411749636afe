/-
What stands here: small plain lemmas that the plain proofs of this seat share (rounds that suffice, tests decided, reads of lists). No program, no memory.
-/
import Derived.Test.YtaenjbhhpdmhgaaWWords
import Derived.Test.YtaenjbhhpdmhgaaWSized
import Derived.Test.YtaenjbhhpdmhgaaWMore
import Derived.Laws.Bits64b
namespace Go.Proofs.Ytaenjbhhpdmhgaa.Kit
open Go.RowKit Go.Proofs.YtaenjbhhpdmhgaaW.PrintWords Go.Proofs.YtaenjbhhpdmhgaaW.PrintMore

theorem Ev.pos {α : Type} {c : Prop} [Decidable c] {A B : Nat → Option α} {r : α} (h : c) (k : Ev A r) : Ev (fun n => if c then A n else B n) r := by
  simpa only [if_pos h] using k
theorem Ev.neg {α : Type} {c : Prop} [Decidable c] {A B : Nat → Option α} {r : α} (h : ¬ c) (k : Ev B r) : Ev (fun n => if c then A n else B n) r := by
  simpa only [if_neg h] using k
theorem Ev.done {α : Type} {a r : α} (h : a = r) : Ev (fun _ => some a) r := h ▸ Ev.now a
theorem Ev.fix {α : Type} {a : Option α} {r : α} (h : a = some r) : Ev (fun _ => a) r := ⟨0, fun _ _ => h⟩
theorem Ev.pure {α β : Type} {a : Option α} {x : α} {f : Nat → α → Option β} {r : β} (h : a = some x) (k : Ev (fun n => f n x) r) : Ev (fun n => a.bind (f n)) r := by
  subst h; exact k
theorem Ev.open_ {α : Type} {g : Nat → Option α} {f : Nat → Option α} {r : α} (h : ∀ k, g (k + 1) = f k) (k : Ev f r) : Ev g r := Ev.step h k
theorem Ev.at_ {α : Type} {g : Nat → Option α} {r : α} (h : ∃ K, ∀ k, K ≤ k → g k = some r) : Ev g r := h

theorem wf_bounds {x : Int} (h : (Lit.int .i64 x).wf = true) : -9223372036854775808 ≤ x ∧ x ≤ 9223372036854775807 := by
  simpa [Lit.wf, IntKind.min, IntKind.max, IntKind.signed, IntKind.bits] using h
theorem wrap_in {x : Int} (h0 : -9223372036854775808 ≤ x) (h1 : x ≤ 9223372036854775807) : wrap64 x = x := by
  unfold wrap64; omega

theorem rd_get (xs : List Int) (i : Nat) (h : i < xs.length) : rd xs (i : Int) = xs[i] := by
  simp [rd, List.getD_eq_getElem?_getD, List.getElem?_eq_getElem h]
theorem rd_cast (xs : List Int) (i : Nat) : rd xs (i : Int) = xs.getD i 0 := rfl

theorem wf_bounds_u64 {x : Int} (h : (Lit.int .u64 x).wf = true) : 0 ≤ x ∧ x ≤ 18446744073709551615 := by
  simpa [Lit.wf, IntKind.min, IntKind.max, IntKind.signed, IntKind.bits] using h
theorem wf_bounds_u8 {x : Int} (h : (Lit.int .u8 x).wf = true) : 0 ≤ x ∧ x ≤ 255 := by
  simpa [Lit.wf, IntKind.min, IntKind.max, IntKind.signed, IntKind.bits] using h
theorem wf_bounds_i8 {x : Int} (h : (Lit.int .i8 x).wf = true) : -128 ≤ x ∧ x ≤ 127 := by
  simpa [Lit.wf, IntKind.min, IntKind.max, IntKind.signed, IntKind.bits] using h
theorem wf_bounds_u16 {x : Int} (h : (Lit.int .u16 x).wf = true) : 0 ≤ x ∧ x ≤ 65535 := by
  simpa [Lit.wf, IntKind.min, IntKind.max, IntKind.signed, IntKind.bits] using h

end Go.Proofs.Ytaenjbhhpdmhgaa.Kit

/- The printed rows name this lemma so. -/
namespace Go.Proofs.Ytaenjbhhpdmhgaa.PrintWords
open Go.ChangeShapes Go.WideShapes
theorem sized_ints {H : Type} {enc : TypeId × Value → H} {P : Program} {W : World} {base : Nat} {spare : Nat → Bool} {held : Bool} {t e : TypeId} {k : IntKind} {a : Option Addr} {len cap : Nat} {d : DataW H} {ps : List MemPlace} {ts : List TypeId} {ds : List (DataW H)} {j : Nat}
    (hsz : (DataW.weightsEach P ts ds).all (· ≤ reachBytes) = true) (ht : ts[j]? = some t) (hd : ds[j]? = some d) (hu : P.underlying t = some (.slice e)) (he : P.underlying e = some (.int k)) (hc : P.cellsOf e = 1) {B : Nat} (hB : P.bytesOf e = B)
    (h : DataW.Trod enc P W base spare held t (.slice a len cap) d ps) : len * B ≤ 140737488351232 :=
  Go.Proofs.YtaenjbhhpdmhgaaW.PrintWords.sized_ints hsz ht hd hu he hc hB h
end Go.Proofs.Ytaenjbhhpdmhgaa.PrintWords
