/-
  No cell of these rows narrows 'for every input' (looked for: loops, veiled, ifaces, maps, wideKeys, modest, calm, conditions, laid).
  DERIVED. THE GIVEN ROWS OF THIS SEAT. 6 by the template 'for every input the law returns true; each argument reads behind the call as it read before'; 0 by the template 'total and deterministic' (their statements: YtjlniahifmhjfaaTotals.lean).
  GIVEN WITH THE SEED: the statements are not yours to turn. If you find one false, say at which input.
  Laid BY PROGRAM, IN A SANDBOX (cutbox-rows.mjs): the forced cells as the released guide's own fill.sh prints them over the translation ae3a807c12c9e964… (all of the seat's roots in one cut). By AI agents, Wed Nov 11 2026. No macro, syntax, notation, axiom, sorry.
-/
import Derived.Test.YtjlniahifmhjfaaChecked
import GoSem.Claim
import GoSem.ClaimJoined
import GoSem.ClaimMapViews
import Derived.JoinedTies
import Derived.KernelRfl
namespace Go.Proofs.Ytjlniahifmhjfaa
/- THE CELL 'sum', in the pinned program and in every row, IS THE sha256 OF THE DUMP (.gsa) THAT YtjlniahifmhjfaaProg.lean LOADS. Nothing in Lean hashes anything: it is a label: what it is worth is what the hold of that sum in a sandbox is worth. -/
noncomputable def Try.pinned : Pinned := { name := "ytjlniahifmhjfaa", sum := "ae3a807c12c9e9644b95a73cdf2e472d753e124504503bcec2456c8846168662", checked := Try.checked }
namespace Rows
def none {H : Type} : Left H := { results := [], args := [] }

/-- 'tautochronelaw01.WordApply': WHATEVER THE INPUT: true; the input reads as it did. -/
def wordApplySpec : ChangeSpec := { name := "wordApply", fn := fun _ => fun
  | [d1, d2, d3] => { results := [.lit (.bool true)], args := [d1, d2, d3] }
  | _ => none }
def wordApplyRow : OpenClaim := { program := "ytjlniahifmhjfaa", sum := "ae3a807c12c9e9644b95a73cdf2e472d753e124504503bcec2456c8846168662", func := "tautochrone/tautochronelaw01.WordApply", spec := "wordApply", apart := false }
def WordApplySaid : Prop := wordApplyRow.holds Try.pinned (OpenSpec.ofChange wordApplySpec)

/-- ITS FALSE NEIGHBOUR: 'it returns false'. Refute it at one input. -/
def wordApplyWrong : ChangeSpec := { name := "wordApply", fn := fun _ => fun
  | [d1, d2, d3] => { results := [.lit (.bool false)], args := [d1, d2, d3] }
  | _ => none }
def WordApplyWrongFalsely : Prop := wordApplyRow.holds Try.pinned (OpenSpec.ofChange wordApplyWrong)

/-- 'tautochronelaw01.WordPick': WHATEVER THE INPUT: true; the input reads as it did. -/
def wordPickSpec : ChangeSpec := { name := "wordPick", fn := fun _ => fun
  | [d1, d2, d3] => { results := [.lit (.bool true)], args := [d1, d2, d3] }
  | _ => none }
def wordPickRow : OpenClaim := { program := "ytjlniahifmhjfaa", sum := "ae3a807c12c9e9644b95a73cdf2e472d753e124504503bcec2456c8846168662", func := "tautochrone/tautochronelaw01.WordPick", spec := "wordPick", apart := false }
def WordPickSaid : Prop := wordPickRow.holds Try.pinned (OpenSpec.ofChange wordPickSpec)

/-- ITS FALSE NEIGHBOUR: 'it returns false'. Refute it at one input. -/
def wordPickWrong : ChangeSpec := { name := "wordPick", fn := fun _ => fun
  | [d1, d2, d3] => { results := [.lit (.bool false)], args := [d1, d2, d3] }
  | _ => none }
def WordPickWrongFalsely : Prop := wordPickRow.holds Try.pinned (OpenSpec.ofChange wordPickWrong)

/-- 'tautochronelaw01.WordRound': WHATEVER THE INPUT: true; the input reads as it did. -/
def wordRoundSpec : ChangeSpec := { name := "wordRound", fn := fun _ => fun
  | [d1, d2] => { results := [.lit (.bool true)], args := [d1, d2] }
  | _ => none }
def wordRoundRow : OpenClaim := { program := "ytjlniahifmhjfaa", sum := "ae3a807c12c9e9644b95a73cdf2e472d753e124504503bcec2456c8846168662", func := "tautochrone/tautochronelaw01.WordRound", spec := "wordRound", apart := false }
def WordRoundSaid : Prop := wordRoundRow.holds Try.pinned (OpenSpec.ofChange wordRoundSpec)

/-- ITS FALSE NEIGHBOUR: 'it returns false'. Refute it at one input. -/
def wordRoundWrong : ChangeSpec := { name := "wordRound", fn := fun _ => fun
  | [d1, d2] => { results := [.lit (.bool false)], args := [d1, d2] }
  | _ => none }
def WordRoundWrongFalsely : Prop := wordRoundRow.holds Try.pinned (OpenSpec.ofChange wordRoundWrong)

/-- 'tautochronelaw01.WordShift': WHATEVER THE INPUT: true; the input reads as it did. -/
def wordShiftSpec : ChangeSpec := { name := "wordShift", fn := fun _ => fun
  | [d1, d2] => { results := [.lit (.bool true)], args := [d1, d2] }
  | _ => none }
def wordShiftRow : OpenClaim := { program := "ytjlniahifmhjfaa", sum := "ae3a807c12c9e9644b95a73cdf2e472d753e124504503bcec2456c8846168662", func := "tautochrone/tautochronelaw01.WordShift", spec := "wordShift", apart := false }
def WordShiftSaid : Prop := wordShiftRow.holds Try.pinned (OpenSpec.ofChange wordShiftSpec)

/-- ITS FALSE NEIGHBOUR: 'it returns false'. Refute it at one input. -/
def wordShiftWrong : ChangeSpec := { name := "wordShift", fn := fun _ => fun
  | [d1, d2] => { results := [.lit (.bool false)], args := [d1, d2] }
  | _ => none }
def WordShiftWrongFalsely : Prop := wordShiftRow.holds Try.pinned (OpenSpec.ofChange wordShiftWrong)

/-- 'tautochronelaw01.WordRing': WHATEVER THE INPUT: true; the input reads as it did. -/
def wordRingSpec : ChangeSpec := { name := "wordRing", fn := fun _ => fun
  | [d1, d2, d3] => { results := [.lit (.bool true)], args := [d1, d2, d3] }
  | _ => none }
def wordRingRow : OpenClaim := { program := "ytjlniahifmhjfaa", sum := "ae3a807c12c9e9644b95a73cdf2e472d753e124504503bcec2456c8846168662", func := "tautochrone/tautochronelaw01.WordRing", spec := "wordRing", unfollowed := true, recurses := true, apart := false }
def WordRingSaid : Prop := wordRingRow.holds Try.pinned (OpenSpec.ofChange wordRingSpec)

/-- ITS FALSE NEIGHBOUR: 'it returns false'. Refute it at one input. -/
def wordRingWrong : ChangeSpec := { name := "wordRing", fn := fun _ => fun
  | [d1, d2, d3] => { results := [.lit (.bool false)], args := [d1, d2, d3] }
  | _ => none }
def WordRingWrongFalsely : Prop := wordRingRow.holds Try.pinned (OpenSpec.ofChange wordRingWrong)

/-- 'tautochronelaw01.WordTurns': WHATEVER THE INPUT: true; the input reads as it did. -/
def wordTurnsSpec : ChangeSpec := { name := "wordTurns", fn := fun _ => fun
  | [d1, d2, d3] => { results := [.lit (.bool true)], args := [d1, d2, d3] }
  | _ => none }
def wordTurnsRow : OpenClaim := { program := "ytjlniahifmhjfaa", sum := "ae3a807c12c9e9644b95a73cdf2e472d753e124504503bcec2456c8846168662", func := "tautochrone/tautochronelaw01.WordTurns", spec := "wordTurns", apart := false }
def WordTurnsSaid : Prop := wordTurnsRow.holds Try.pinned (OpenSpec.ofChange wordTurnsSpec)

/-- ITS FALSE NEIGHBOUR: 'it returns false'. Refute it at one input. -/
def wordTurnsWrong : ChangeSpec := { name := "wordTurns", fn := fun _ => fun
  | [d1, d2, d3] => { results := [.lit (.bool false)], args := [d1, d2, d3] }
  | _ => none }
def WordTurnsWrongFalsely : Prop := wordTurnsRow.holds Try.pinned (OpenSpec.ofChange wordTurnsWrong)

/- THE SECOND FORM. 'bulk': how many values and letters a reading holds, each counted each time it is reached (what is shared counts as often as it is met; a slice's spare places count too). A statement '..UptoSaid' is the law's where the arguments, and the package variables that the reading takes, are together of bulk at most 1048576: NARROWER than '..Said'. Prove '..Said' where nothing that the law and all that it calls make is longer than what came in: it says more and counts as full. Else prove '..UptoSaid'. A law counts once. -/
mutual
def uptoBulk {H : Type} : DataW H → Nat
  | .lit (.string bytes) => bytes.length + 1
  | .lit _ => 1
  | .nil => 1
  | .ptr d => uptoBulk d + 1
  | .slice elems spare => uptoBulkAll elems + uptoBulkAll spare + 1
  | .agg parts => uptoBulkAll parts + 1
  | .iface _ d => uptoBulk d + 1
  | .map entries => uptoBulkEntries entries + 1
  | .held _ => 1
def uptoBulkAll {H : Type} : List (DataW H) → Nat
  | [] => 0
  | d :: r => uptoBulk d + uptoBulkAll r
def uptoBulkEntries {H : Type} : List (Lit × DataW H) → Nat
  | [] => 0
  | x :: r => uptoBulkEntry x + uptoBulkEntries r
def uptoBulkEntry {H : Type} : Lit × DataW H → Nat
  | (.string bytes, d) => bytes.length + uptoBulk d + 1
  | (_, d) => uptoBulk d + 1
 end
def uptoSmall : (H : Type) → List (DataW H) → Bool := fun _ ds => decide (uptoBulkAll ds ≤ 1048576)
def OpenSpec.upto (s : _root_.Go.ChangeSpec) : _root_.Go.OpenSpec := { _root_.Go.OpenSpec.ofChange s with cond := some uptoSmall }

/-- 'tautochronelaw01.WordApply', WHERE WHAT IT READS IS OF BULK AT MOST 1048576: true; the input reads as it did. -/
def wordApplyUptoRow : OpenClaim := { program := "ytjlniahifmhjfaa", sum := "ae3a807c12c9e9644b95a73cdf2e472d753e124504503bcec2456c8846168662", func := "tautochrone/tautochronelaw01.WordApply", spec := "wordApply", apart := false, narrowed := true }
def WordApplyUptoSaid : Prop := wordApplyUptoRow.holds Try.pinned (OpenSpec.upto wordApplySpec)

/-- 'tautochronelaw01.WordPick', WHERE WHAT IT READS IS OF BULK AT MOST 1048576: true; the input reads as it did. -/
def wordPickUptoRow : OpenClaim := { program := "ytjlniahifmhjfaa", sum := "ae3a807c12c9e9644b95a73cdf2e472d753e124504503bcec2456c8846168662", func := "tautochrone/tautochronelaw01.WordPick", spec := "wordPick", apart := false, narrowed := true }
def WordPickUptoSaid : Prop := wordPickUptoRow.holds Try.pinned (OpenSpec.upto wordPickSpec)

/-- 'tautochronelaw01.WordRound', WHERE WHAT IT READS IS OF BULK AT MOST 1048576: true; the input reads as it did. -/
def wordRoundUptoRow : OpenClaim := { program := "ytjlniahifmhjfaa", sum := "ae3a807c12c9e9644b95a73cdf2e472d753e124504503bcec2456c8846168662", func := "tautochrone/tautochronelaw01.WordRound", spec := "wordRound", apart := false, narrowed := true }
def WordRoundUptoSaid : Prop := wordRoundUptoRow.holds Try.pinned (OpenSpec.upto wordRoundSpec)

/-- 'tautochronelaw01.WordShift', WHERE WHAT IT READS IS OF BULK AT MOST 1048576: true; the input reads as it did. -/
def wordShiftUptoRow : OpenClaim := { program := "ytjlniahifmhjfaa", sum := "ae3a807c12c9e9644b95a73cdf2e472d753e124504503bcec2456c8846168662", func := "tautochrone/tautochronelaw01.WordShift", spec := "wordShift", apart := false, narrowed := true }
def WordShiftUptoSaid : Prop := wordShiftUptoRow.holds Try.pinned (OpenSpec.upto wordShiftSpec)

/-- 'tautochronelaw01.WordRing', WHERE WHAT IT READS IS OF BULK AT MOST 1048576: true; the input reads as it did. -/
def wordRingUptoRow : OpenClaim := { program := "ytjlniahifmhjfaa", sum := "ae3a807c12c9e9644b95a73cdf2e472d753e124504503bcec2456c8846168662", func := "tautochrone/tautochronelaw01.WordRing", spec := "wordRing", unfollowed := true, recurses := true, apart := false, narrowed := true }
def WordRingUptoSaid : Prop := wordRingUptoRow.holds Try.pinned (OpenSpec.upto wordRingSpec)

/-- 'tautochronelaw01.WordTurns', WHERE WHAT IT READS IS OF BULK AT MOST 1048576: true; the input reads as it did. -/
def wordTurnsUptoRow : OpenClaim := { program := "ytjlniahifmhjfaa", sum := "ae3a807c12c9e9644b95a73cdf2e472d753e124504503bcec2456c8846168662", func := "tautochrone/tautochronelaw01.WordTurns", spec := "wordTurns", apart := false, narrowed := true }
def WordTurnsUptoSaid : Prop := wordTurnsUptoRow.holds Try.pinned (OpenSpec.upto wordTurnsSpec)

end Rows
end Go.Proofs.Ytjlniahifmhjfaa
