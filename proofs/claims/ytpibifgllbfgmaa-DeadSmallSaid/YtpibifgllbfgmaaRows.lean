/-
  No cell of these rows narrows 'for every input' (looked for: loops, veiled, ifaces, maps, wideKeys, modest, calm, conditions, laid).
  DERIVED. THE GIVEN ROWS OF THIS SEAT. 4 by the template 'for every input the law returns true; each argument reads behind the call as it read before'; 0 by the template 'total and deterministic' (their statements: YtpibifgllbfgmaaTotals.lean).
  GIVEN WITH THE SEED: the statements are not yours to turn. If you find one false, say at which input.
  Laid BY PROGRAM, IN A SANDBOX (cutbox-rows.mjs): the forced cells as the released guide's own fill.sh prints them over the translation a58e8114e0b41cfd… (all of the seat's roots in one cut). By AI agents, Wed Nov 11 2026. No macro, syntax, notation, axiom, sorry.
-/
import Derived.Test.YtpibifgllbfgmaaChecked
import GoSem.Claim
import GoSem.ClaimJoined
import GoSem.ClaimMapViews
import Derived.JoinedTies
import Derived.KernelRfl
namespace Go.Proofs.Ytpibifgllbfgmaa
/- THE CELL 'sum', in the pinned program and in every row, IS THE sha256 OF THE DUMP (.gsa) THAT YtpibifgllbfgmaaProg.lean LOADS. Nothing in Lean hashes anything: it is a label: what it is worth is what the hold of that sum in a sandbox is worth. -/
noncomputable def Try.pinned : Pinned := { name := "ytpibifgllbfgmaa", sum := "a58e8114e0b41cfdd7ea539f05840c967e16eca64114240ac63d7d40ded51c12", checked := Try.checked }
namespace Rows
def none {H : Type} : Left H := { results := [], args := [] }

/-- 'tautochronelaw16.DeadOf': WHATEVER THE INPUT: true; the input reads as it did. -/
def deadOfSpec : ChangeSpec := { name := "deadOf", fn := fun _ => fun
  | [d] => { results := [.lit (.bool true)], args := [d] }
  | _ => none }
def deadOfRow : OpenClaim := { program := "ytpibifgllbfgmaa", sum := "a58e8114e0b41cfdd7ea539f05840c967e16eca64114240ac63d7d40ded51c12", func := "tautochrone/tautochronelaw16.DeadOf", spec := "deadOf", unfollowed := true, recurses := true, apart := false }
def DeadOfSaid : Prop := deadOfRow.holds Try.pinned (OpenSpec.ofChange deadOfSpec)

/-- ITS FALSE NEIGHBOUR: 'it returns false'. Refute it at one input. -/
def deadOfWrong : ChangeSpec := { name := "deadOf", fn := fun _ => fun
  | [d] => { results := [.lit (.bool false)], args := [d] }
  | _ => none }
def DeadOfWrongFalsely : Prop := deadOfRow.holds Try.pinned (OpenSpec.ofChange deadOfWrong)

/-- 'tautochronelaw16.DeadTwice': WHATEVER THE INPUT: true; the input reads as it did. -/
def deadTwiceSpec : ChangeSpec := { name := "deadTwice", fn := fun _ => fun
  | [d] => { results := [.lit (.bool true)], args := [d] }
  | _ => none }
def deadTwiceRow : OpenClaim := { program := "ytpibifgllbfgmaa", sum := "a58e8114e0b41cfdd7ea539f05840c967e16eca64114240ac63d7d40ded51c12", func := "tautochrone/tautochronelaw16.DeadTwice", spec := "deadTwice", unfollowed := true, recurses := true, apart := false }
def DeadTwiceSaid : Prop := deadTwiceRow.holds Try.pinned (OpenSpec.ofChange deadTwiceSpec)

/-- ITS FALSE NEIGHBOUR: 'it returns false'. Refute it at one input. -/
def deadTwiceWrong : ChangeSpec := { name := "deadTwice", fn := fun _ => fun
  | [d] => { results := [.lit (.bool false)], args := [d] }
  | _ => none }
def DeadTwiceWrongFalsely : Prop := deadTwiceRow.holds Try.pinned (OpenSpec.ofChange deadTwiceWrong)

/-- 'tautochronelaw16.DeadLess': WHATEVER THE INPUT: true; the input reads as it did. -/
def deadLessSpec : ChangeSpec := { name := "deadLess", fn := fun _ => fun
  | [d] => { results := [.lit (.bool true)], args := [d] }
  | _ => none }
def deadLessRow : OpenClaim := { program := "ytpibifgllbfgmaa", sum := "a58e8114e0b41cfdd7ea539f05840c967e16eca64114240ac63d7d40ded51c12", func := "tautochrone/tautochronelaw16.DeadLess", spec := "deadLess", unfollowed := true, recurses := true, apart := false }
def DeadLessSaid : Prop := deadLessRow.holds Try.pinned (OpenSpec.ofChange deadLessSpec)

/-- ITS FALSE NEIGHBOUR: 'it returns false'. Refute it at one input. -/
def deadLessWrong : ChangeSpec := { name := "deadLess", fn := fun _ => fun
  | [d] => { results := [.lit (.bool false)], args := [d] }
  | _ => none }
def DeadLessWrongFalsely : Prop := deadLessRow.holds Try.pinned (OpenSpec.ofChange deadLessWrong)

/-- 'tautochronelaw16.DeadSmall': WHATEVER THE INPUT: true; the input reads as it did. -/
def deadSmallSpec : ChangeSpec := { name := "deadSmall", fn := fun _ => fun
  | [d1, d2] => { results := [.lit (.bool true)], args := [d1, d2] }
  | _ => none }
def deadSmallRow : OpenClaim := { program := "ytpibifgllbfgmaa", sum := "a58e8114e0b41cfdd7ea539f05840c967e16eca64114240ac63d7d40ded51c12", func := "tautochrone/tautochronelaw16.DeadSmall", spec := "deadSmall", unfollowed := true, recurses := true, apart := false }
def DeadSmallSaid : Prop := deadSmallRow.holds Try.pinned (OpenSpec.ofChange deadSmallSpec)

/-- ITS FALSE NEIGHBOUR: 'it returns false'. Refute it at one input. -/
def deadSmallWrong : ChangeSpec := { name := "deadSmall", fn := fun _ => fun
  | [d1, d2] => { results := [.lit (.bool false)], args := [d1, d2] }
  | _ => none }
def DeadSmallWrongFalsely : Prop := deadSmallRow.holds Try.pinned (OpenSpec.ofChange deadSmallWrong)

/- THE SECOND FORM. 'bulk': how many values and letters a reading holds, each counted each time it is reached (what is shared counts as often as it is met; a slice's spare places count too). A statement '..UptoSaid' is the law's where the arguments, and the package variables that the reading takes, are together of bulk at most 1048576: NARROWER than '..Said'. Prove '..Said' where nothing that the law and all that it calls make is longer than what came in: it says more and counts as full. Else prove '..UptoSaid'. A law counts once. -/
mutual
def uptoBulk {H : Type} : DataW H → Nat
  | .lit (.string bytes) => bytes.length + 1
  | .lit _ => 1
  | .nil => 1
  | .ptr d => uptoBulk d + 1
  | .slice elems spare => uptoBulkAll elems + uptoBulkAll spare + 1
  | .agg parts => uptoBulkAll parts + 1
  | .iface _ d => uptoBulk d + 1
  | .map entries => uptoBulkEntries entries + 1
  | .held _ => 1
def uptoBulkAll {H : Type} : List (DataW H) → Nat
  | [] => 0
  | d :: r => uptoBulk d + uptoBulkAll r
def uptoBulkEntries {H : Type} : List (Lit × DataW H) → Nat
  | [] => 0
  | x :: r => uptoBulkEntry x + uptoBulkEntries r
def uptoBulkEntry {H : Type} : Lit × DataW H → Nat
  | (.string bytes, d) => bytes.length + uptoBulk d + 1
  | (_, d) => uptoBulk d + 1
 end
def uptoSmall : (H : Type) → List (DataW H) → Bool := fun _ ds => decide (uptoBulkAll ds ≤ 1048576)
def OpenSpec.upto (s : _root_.Go.ChangeSpec) : _root_.Go.OpenSpec := { _root_.Go.OpenSpec.ofChange s with cond := some uptoSmall }

/-- 'tautochronelaw16.DeadOf', WHERE WHAT IT READS IS OF BULK AT MOST 1048576: true; the input reads as it did. -/
def deadOfUptoRow : OpenClaim := { program := "ytpibifgllbfgmaa", sum := "a58e8114e0b41cfdd7ea539f05840c967e16eca64114240ac63d7d40ded51c12", func := "tautochrone/tautochronelaw16.DeadOf", spec := "deadOf", unfollowed := true, recurses := true, apart := false, narrowed := true }
def DeadOfUptoSaid : Prop := deadOfUptoRow.holds Try.pinned (OpenSpec.upto deadOfSpec)

/-- 'tautochronelaw16.DeadTwice', WHERE WHAT IT READS IS OF BULK AT MOST 1048576: true; the input reads as it did. -/
def deadTwiceUptoRow : OpenClaim := { program := "ytpibifgllbfgmaa", sum := "a58e8114e0b41cfdd7ea539f05840c967e16eca64114240ac63d7d40ded51c12", func := "tautochrone/tautochronelaw16.DeadTwice", spec := "deadTwice", unfollowed := true, recurses := true, apart := false, narrowed := true }
def DeadTwiceUptoSaid : Prop := deadTwiceUptoRow.holds Try.pinned (OpenSpec.upto deadTwiceSpec)

/-- 'tautochronelaw16.DeadLess', WHERE WHAT IT READS IS OF BULK AT MOST 1048576: true; the input reads as it did. -/
def deadLessUptoRow : OpenClaim := { program := "ytpibifgllbfgmaa", sum := "a58e8114e0b41cfdd7ea539f05840c967e16eca64114240ac63d7d40ded51c12", func := "tautochrone/tautochronelaw16.DeadLess", spec := "deadLess", unfollowed := true, recurses := true, apart := false, narrowed := true }
def DeadLessUptoSaid : Prop := deadLessUptoRow.holds Try.pinned (OpenSpec.upto deadLessSpec)

/-- 'tautochronelaw16.DeadSmall', WHERE WHAT IT READS IS OF BULK AT MOST 1048576: true; the input reads as it did. -/
def deadSmallUptoRow : OpenClaim := { program := "ytpibifgllbfgmaa", sum := "a58e8114e0b41cfdd7ea539f05840c967e16eca64114240ac63d7d40ded51c12", func := "tautochrone/tautochronelaw16.DeadSmall", spec := "deadSmall", unfollowed := true, recurses := true, apart := false, narrowed := true }
def DeadSmallUptoSaid : Prop := deadSmallUptoRow.holds Try.pinned (OpenSpec.upto deadSmallSpec)

end Rows
end Go.Proofs.Ytpibifgllbfgmaa
