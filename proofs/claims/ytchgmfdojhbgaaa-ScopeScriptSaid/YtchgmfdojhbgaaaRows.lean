/-
  No cell of these rows narrows 'for every input' (looked for: loops, veiled, ifaces, maps, wideKeys, modest, calm, conditions, laid).
  DERIVED. THE GIVEN ROWS OF THIS SEAT. 3 by the template 'for every input the law returns true; each argument reads behind the call as it read before'; 0 by the template 'total and deterministic' (their statements: YtchgmfdojhbgaaaTotals.lean).
  GIVEN WITH THE SEED: the statements are not yours to turn. If you find one false, say at which input.
  Laid BY PROGRAM, IN A SANDBOX (cutbox-rows.mjs): the forced cells as the released guide's own fill.sh prints them over the translation 1df3077c70034eea… (all of the seat's roots in one cut). By AI agents, Wed Nov 11 2026. No macro, syntax, notation, axiom, sorry.
-/
import Derived.Test.YtchgmfdojhbgaaaChecked
import GoSem.Claim
import GoSem.ClaimJoined
import GoSem.ClaimMapViews
import Derived.JoinedTies
import Derived.KernelRfl
namespace Go.Proofs.Ytchgmfdojhbgaaa
/- THE CELL 'sum', in the pinned program and in every row, IS THE sha256 OF THE DUMP (.gsa) THAT YtchgmfdojhbgaaaProg.lean LOADS. Nothing in Lean hashes anything: it is a label: what it is worth is what the hold of that sum in a sandbox is worth. -/
noncomputable def Try.pinned : Pinned := { name := "ytchgmfdojhbgaaa", sum := "1df3077c70034eeacfe181633597fa6f5571f8be244124cf521601f063382f58", checked := Try.checked }
namespace Rows
def none {H : Type} : Left H := { results := [], args := [] }

/-- 'tautochronelaw06.ScopeHides': WHATEVER THE INPUT: true; the input reads as it did. -/
def scopeHidesSpec : ChangeSpec := { name := "scopeHides", fn := fun _ => fun
  | [d1, d2, d3] => { results := [.lit (.bool true)], args := [d1, d2, d3] }
  | _ => none }
def scopeHidesRow : OpenClaim := { program := "ytchgmfdojhbgaaa", sum := "1df3077c70034eeacfe181633597fa6f5571f8be244124cf521601f063382f58", func := "tautochrone/tautochronelaw06.ScopeHides", spec := "scopeHides", apart := false }
def ScopeHidesSaid : Prop := scopeHidesRow.holds Try.pinned (OpenSpec.ofChange scopeHidesSpec)

/-- ITS FALSE NEIGHBOUR: 'it returns false'. Refute it at one input. -/
def scopeHidesWrong : ChangeSpec := { name := "scopeHides", fn := fun _ => fun
  | [d1, d2, d3] => { results := [.lit (.bool false)], args := [d1, d2, d3] }
  | _ => none }
def ScopeHidesWrongFalsely : Prop := scopeHidesRow.holds Try.pinned (OpenSpec.ofChange scopeHidesWrong)

/-- 'tautochronelaw06.ScopeScript': WHATEVER THE INPUT: true; the input reads as it did. -/
def scopeScriptSpec : ChangeSpec := { name := "scopeScript", fn := fun _ => fun
  | [d1, d2] => { results := [.lit (.bool true)], args := [d1, d2] }
  | _ => none }
def scopeScriptRow : OpenClaim := { program := "ytchgmfdojhbgaaa", sum := "1df3077c70034eeacfe181633597fa6f5571f8be244124cf521601f063382f58", func := "tautochrone/tautochronelaw06.ScopeScript", spec := "scopeScript", apart := false }
def ScopeScriptSaid : Prop := scopeScriptRow.holds Try.pinned (OpenSpec.ofChange scopeScriptSpec)

/-- ITS FALSE NEIGHBOUR: 'it returns false'. Refute it at one input. -/
def scopeScriptWrong : ChangeSpec := { name := "scopeScript", fn := fun _ => fun
  | [d1, d2] => { results := [.lit (.bool false)], args := [d1, d2] }
  | _ => none }
def ScopeScriptWrongFalsely : Prop := scopeScriptRow.holds Try.pinned (OpenSpec.ofChange scopeScriptWrong)

/-- 'tautochronelaw06.ScopeLeave': WHATEVER THE INPUT: true; the input reads as it did. -/
def scopeLeaveSpec : ChangeSpec := { name := "scopeLeave", fn := fun _ => fun
  | [d1, d2] => { results := [.lit (.bool true)], args := [d1, d2] }
  | _ => none }
def scopeLeaveRow : OpenClaim := { program := "ytchgmfdojhbgaaa", sum := "1df3077c70034eeacfe181633597fa6f5571f8be244124cf521601f063382f58", func := "tautochrone/tautochronelaw06.ScopeLeave", spec := "scopeLeave", apart := false }
def ScopeLeaveSaid : Prop := scopeLeaveRow.holds Try.pinned (OpenSpec.ofChange scopeLeaveSpec)

/-- ITS FALSE NEIGHBOUR: 'it returns false'. Refute it at one input. -/
def scopeLeaveWrong : ChangeSpec := { name := "scopeLeave", fn := fun _ => fun
  | [d1, d2] => { results := [.lit (.bool false)], args := [d1, d2] }
  | _ => none }
def ScopeLeaveWrongFalsely : Prop := scopeLeaveRow.holds Try.pinned (OpenSpec.ofChange scopeLeaveWrong)

/- THE SECOND FORM. 'bulk': how many values and letters a reading holds, each counted each time it is reached (what is shared counts as often as it is met; a slice's spare places count too). A statement '..UptoSaid' is the law's where the arguments, and the package variables that the reading takes, are together of bulk at most 1048576: NARROWER than '..Said'. Prove '..Said' where nothing that the law and all that it calls make is longer than what came in: it says more and counts as full. Else prove '..UptoSaid'. A law counts once. -/
mutual
def uptoBulk {H : Type} : DataW H → Nat
  | .lit (.string bytes) => bytes.length + 1
  | .lit _ => 1
  | .nil => 1
  | .ptr d => uptoBulk d + 1
  | .slice elems spare => uptoBulkAll elems + uptoBulkAll spare + 1
  | .agg parts => uptoBulkAll parts + 1
  | .iface _ d => uptoBulk d + 1
  | .map entries => uptoBulkEntries entries + 1
  | .held _ => 1
def uptoBulkAll {H : Type} : List (DataW H) → Nat
  | [] => 0
  | d :: r => uptoBulk d + uptoBulkAll r
def uptoBulkEntries {H : Type} : List (Lit × DataW H) → Nat
  | [] => 0
  | x :: r => uptoBulkEntry x + uptoBulkEntries r
def uptoBulkEntry {H : Type} : Lit × DataW H → Nat
  | (.string bytes, d) => bytes.length + uptoBulk d + 1
  | (_, d) => uptoBulk d + 1
 end
def uptoSmall : (H : Type) → List (DataW H) → Bool := fun _ ds => decide (uptoBulkAll ds ≤ 1048576)
def OpenSpec.upto (s : _root_.Go.ChangeSpec) : _root_.Go.OpenSpec := { _root_.Go.OpenSpec.ofChange s with cond := some uptoSmall }

/-- 'tautochronelaw06.ScopeHides', WHERE WHAT IT READS IS OF BULK AT MOST 1048576: true; the input reads as it did. -/
def scopeHidesUptoRow : OpenClaim := { program := "ytchgmfdojhbgaaa", sum := "1df3077c70034eeacfe181633597fa6f5571f8be244124cf521601f063382f58", func := "tautochrone/tautochronelaw06.ScopeHides", spec := "scopeHides", apart := false, narrowed := true }
def ScopeHidesUptoSaid : Prop := scopeHidesUptoRow.holds Try.pinned (OpenSpec.upto scopeHidesSpec)

/-- 'tautochronelaw06.ScopeScript', WHERE WHAT IT READS IS OF BULK AT MOST 1048576: true; the input reads as it did. -/
def scopeScriptUptoRow : OpenClaim := { program := "ytchgmfdojhbgaaa", sum := "1df3077c70034eeacfe181633597fa6f5571f8be244124cf521601f063382f58", func := "tautochrone/tautochronelaw06.ScopeScript", spec := "scopeScript", apart := false, narrowed := true }
def ScopeScriptUptoSaid : Prop := scopeScriptUptoRow.holds Try.pinned (OpenSpec.upto scopeScriptSpec)

/-- 'tautochronelaw06.ScopeLeave', WHERE WHAT IT READS IS OF BULK AT MOST 1048576: true; the input reads as it did. -/
def scopeLeaveUptoRow : OpenClaim := { program := "ytchgmfdojhbgaaa", sum := "1df3077c70034eeacfe181633597fa6f5571f8be244124cf521601f063382f58", func := "tautochrone/tautochronelaw06.ScopeLeave", spec := "scopeLeave", apart := false, narrowed := true }
def ScopeLeaveUptoSaid : Prop := scopeLeaveUptoRow.holds Try.pinned (OpenSpec.upto scopeLeaveSpec)

end Rows
end Go.Proofs.Ytchgmfdojhbgaaa
