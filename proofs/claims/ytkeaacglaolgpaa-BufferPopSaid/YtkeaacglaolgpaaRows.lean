/-
  No cell of these rows narrows 'for every input' (looked for: loops, veiled, ifaces, maps, wideKeys, modest, calm, conditions, laid).
  DERIVED. THE GIVEN ROWS OF THIS SEAT. 6 by the template 'for every input the law returns true; each argument reads behind the call as it read before'; 0 by the template 'total and deterministic' (their statements: YtkeaacglaolgpaaTotals.lean).
  GIVEN WITH THE SEED: the statements are not yours to turn. If you find one false, say at which input.
  Laid BY PROGRAM, IN A SANDBOX (cutbox-rows.mjs): the forced cells as the released guide's own fill.sh prints them over the translation 33c674a96d1cb32d… (all of the seat's roots in one cut). By AI agents, Wed Nov 11 2026. No macro, syntax, notation, axiom, sorry.
-/
import Derived.Test.YtkeaacglaolgpaaChecked
import GoSem.Claim
import GoSem.ClaimJoined
import GoSem.ClaimMapViews
import Derived.JoinedTies
import Derived.KernelRfl
namespace Go.Proofs.Ytkeaacglaolgpaa
/- THE CELL 'sum', in the pinned program and in every row, IS THE sha256 OF THE DUMP (.gsa) THAT YtkeaacglaolgpaaProg.lean LOADS. Nothing in Lean hashes anything: it is a label: what it is worth is what the hold of that sum in a sandbox is worth. -/
noncomputable def Try.pinned : Pinned := { name := "ytkeaacglaolgpaa", sum := "33c674a96d1cb32dad9f90a3a629aee2ef25e65fbff55880affd68847776888d", checked := Try.checked }
namespace Rows
def none {H : Type} : Left H := { results := [], args := [] }

/-- 'tautochronelaw22.BufferFind': WHATEVER THE INPUT: true; the input reads as it did. -/
def bufferFindSpec : ChangeSpec := { name := "bufferFind", fn := fun _ => fun
  | [d1, d2] => { results := [.lit (.bool true)], args := [d1, d2] }
  | _ => none }
def bufferFindRow : OpenClaim := { program := "ytkeaacglaolgpaa", sum := "33c674a96d1cb32dad9f90a3a629aee2ef25e65fbff55880affd68847776888d", func := "tautochrone/tautochronelaw22.BufferFind", spec := "bufferFind", apart := false }
def BufferFindSaid : Prop := bufferFindRow.holds Try.pinned (OpenSpec.ofChange bufferFindSpec)

/-- ITS FALSE NEIGHBOUR: 'it returns false'. Refute it at one input. -/
def bufferFindWrong : ChangeSpec := { name := "bufferFind", fn := fun _ => fun
  | [d1, d2] => { results := [.lit (.bool false)], args := [d1, d2] }
  | _ => none }
def BufferFindWrongFalsely : Prop := bufferFindRow.holds Try.pinned (OpenSpec.ofChange bufferFindWrong)

/-- 'tautochronelaw22.BufferPush': WHATEVER THE INPUT: true; the input reads as it did. -/
def bufferPushSpec : ChangeSpec := { name := "bufferPush", fn := fun _ => fun
  | [d1, d2, d3] => { results := [.lit (.bool true)], args := [d1, d2, d3] }
  | _ => none }
def bufferPushRow : OpenClaim := { program := "ytkeaacglaolgpaa", sum := "33c674a96d1cb32dad9f90a3a629aee2ef25e65fbff55880affd68847776888d", func := "tautochrone/tautochronelaw22.BufferPush", spec := "bufferPush", apart := false }
def BufferPushSaid : Prop := bufferPushRow.holds Try.pinned (OpenSpec.ofChange bufferPushSpec)

/-- ITS FALSE NEIGHBOUR: 'it returns false'. Refute it at one input. -/
def bufferPushWrong : ChangeSpec := { name := "bufferPush", fn := fun _ => fun
  | [d1, d2, d3] => { results := [.lit (.bool false)], args := [d1, d2, d3] }
  | _ => none }
def BufferPushWrongFalsely : Prop := bufferPushRow.holds Try.pinned (OpenSpec.ofChange bufferPushWrong)

/-- 'tautochronelaw22.BufferPop': WHATEVER THE INPUT: true; the input reads as it did. -/
def bufferPopSpec : ChangeSpec := { name := "bufferPop", fn := fun _ => fun
  | [d] => { results := [.lit (.bool true)], args := [d] }
  | _ => none }
def bufferPopRow : OpenClaim := { program := "ytkeaacglaolgpaa", sum := "33c674a96d1cb32dad9f90a3a629aee2ef25e65fbff55880affd68847776888d", func := "tautochrone/tautochronelaw22.BufferPop", spec := "bufferPop", apart := false }
def BufferPopSaid : Prop := bufferPopRow.holds Try.pinned (OpenSpec.ofChange bufferPopSpec)

/-- ITS FALSE NEIGHBOUR: 'it returns false'. Refute it at one input. -/
def bufferPopWrong : ChangeSpec := { name := "bufferPop", fn := fun _ => fun
  | [d] => { results := [.lit (.bool false)], args := [d] }
  | _ => none }
def BufferPopWrongFalsely : Prop := bufferPopRow.holds Try.pinned (OpenSpec.ofChange bufferPopWrong)

/-- 'tautochronelaw22.BufferOrder': WHATEVER THE INPUT: true; the input reads as it did. -/
def bufferOrderSpec : ChangeSpec := { name := "bufferOrder", fn := fun _ => fun
  | [d1, d2] => { results := [.lit (.bool true)], args := [d1, d2] }
  | _ => none }
def bufferOrderRow : OpenClaim := { program := "ytkeaacglaolgpaa", sum := "33c674a96d1cb32dad9f90a3a629aee2ef25e65fbff55880affd68847776888d", func := "tautochrone/tautochronelaw22.BufferOrder", spec := "bufferOrder", apart := false }
def BufferOrderSaid : Prop := bufferOrderRow.holds Try.pinned (OpenSpec.ofChange bufferOrderSpec)

/-- ITS FALSE NEIGHBOUR: 'it returns false'. Refute it at one input. -/
def bufferOrderWrong : ChangeSpec := { name := "bufferOrder", fn := fun _ => fun
  | [d1, d2] => { results := [.lit (.bool false)], args := [d1, d2] }
  | _ => none }
def BufferOrderWrongFalsely : Prop := bufferOrderRow.holds Try.pinned (OpenSpec.ofChange bufferOrderWrong)

/-- 'tautochronelaw22.BufferDrain': WHATEVER THE INPUT: true; the input reads as it did. -/
def bufferDrainSpec : ChangeSpec := { name := "bufferDrain", fn := fun _ => fun
  | [d1, d2] => { results := [.lit (.bool true)], args := [d1, d2] }
  | _ => none }
def bufferDrainRow : OpenClaim := { program := "ytkeaacglaolgpaa", sum := "33c674a96d1cb32dad9f90a3a629aee2ef25e65fbff55880affd68847776888d", func := "tautochrone/tautochronelaw22.BufferDrain", spec := "bufferDrain", apart := false }
def BufferDrainSaid : Prop := bufferDrainRow.holds Try.pinned (OpenSpec.ofChange bufferDrainSpec)

/-- ITS FALSE NEIGHBOUR: 'it returns false'. Refute it at one input. -/
def bufferDrainWrong : ChangeSpec := { name := "bufferDrain", fn := fun _ => fun
  | [d1, d2] => { results := [.lit (.bool false)], args := [d1, d2] }
  | _ => none }
def BufferDrainWrongFalsely : Prop := bufferDrainRow.holds Try.pinned (OpenSpec.ofChange bufferDrainWrong)

/-- 'tautochronelaw22.BufferParts': WHATEVER THE INPUT: true; the input reads as it did. -/
def bufferPartsSpec : ChangeSpec := { name := "bufferParts", fn := fun _ => fun
  | [d1, d2, d3] => { results := [.lit (.bool true)], args := [d1, d2, d3] }
  | _ => none }
def bufferPartsRow : OpenClaim := { program := "ytkeaacglaolgpaa", sum := "33c674a96d1cb32dad9f90a3a629aee2ef25e65fbff55880affd68847776888d", func := "tautochrone/tautochronelaw22.BufferParts", spec := "bufferParts", apart := false }
def BufferPartsSaid : Prop := bufferPartsRow.holds Try.pinned (OpenSpec.ofChange bufferPartsSpec)

/-- ITS FALSE NEIGHBOUR: 'it returns false'. Refute it at one input. -/
def bufferPartsWrong : ChangeSpec := { name := "bufferParts", fn := fun _ => fun
  | [d1, d2, d3] => { results := [.lit (.bool false)], args := [d1, d2, d3] }
  | _ => none }
def BufferPartsWrongFalsely : Prop := bufferPartsRow.holds Try.pinned (OpenSpec.ofChange bufferPartsWrong)

/- THE SECOND FORM. 'bulk': how many values and letters a reading holds, each counted each time it is reached (what is shared counts as often as it is met; a slice's spare places count too). A statement '..UptoSaid' is the law's where the arguments, and the package variables that the reading takes, are together of bulk at most 1048576: NARROWER than '..Said'. Prove '..Said' where nothing that the law and all that it calls make is longer than what came in: it says more and counts as full. Else prove '..UptoSaid'. A law counts once. -/
mutual
def uptoBulk {H : Type} : DataW H → Nat
  | .lit (.string bytes) => bytes.length + 1
  | .lit _ => 1
  | .nil => 1
  | .ptr d => uptoBulk d + 1
  | .slice elems spare => uptoBulkAll elems + uptoBulkAll spare + 1
  | .agg parts => uptoBulkAll parts + 1
  | .iface _ d => uptoBulk d + 1
  | .map entries => uptoBulkEntries entries + 1
  | .held _ => 1
def uptoBulkAll {H : Type} : List (DataW H) → Nat
  | [] => 0
  | d :: r => uptoBulk d + uptoBulkAll r
def uptoBulkEntries {H : Type} : List (Lit × DataW H) → Nat
  | [] => 0
  | x :: r => uptoBulkEntry x + uptoBulkEntries r
def uptoBulkEntry {H : Type} : Lit × DataW H → Nat
  | (.string bytes, d) => bytes.length + uptoBulk d + 1
  | (_, d) => uptoBulk d + 1
 end
def uptoSmall : (H : Type) → List (DataW H) → Bool := fun _ ds => decide (uptoBulkAll ds ≤ 1048576)
def OpenSpec.upto (s : _root_.Go.ChangeSpec) : _root_.Go.OpenSpec := { _root_.Go.OpenSpec.ofChange s with cond := some uptoSmall }

/-- 'tautochronelaw22.BufferFind', WHERE WHAT IT READS IS OF BULK AT MOST 1048576: true; the input reads as it did. -/
def bufferFindUptoRow : OpenClaim := { program := "ytkeaacglaolgpaa", sum := "33c674a96d1cb32dad9f90a3a629aee2ef25e65fbff55880affd68847776888d", func := "tautochrone/tautochronelaw22.BufferFind", spec := "bufferFind", apart := false, narrowed := true }
def BufferFindUptoSaid : Prop := bufferFindUptoRow.holds Try.pinned (OpenSpec.upto bufferFindSpec)

/-- 'tautochronelaw22.BufferPush', WHERE WHAT IT READS IS OF BULK AT MOST 1048576: true; the input reads as it did. -/
def bufferPushUptoRow : OpenClaim := { program := "ytkeaacglaolgpaa", sum := "33c674a96d1cb32dad9f90a3a629aee2ef25e65fbff55880affd68847776888d", func := "tautochrone/tautochronelaw22.BufferPush", spec := "bufferPush", apart := false, narrowed := true }
def BufferPushUptoSaid : Prop := bufferPushUptoRow.holds Try.pinned (OpenSpec.upto bufferPushSpec)

/-- 'tautochronelaw22.BufferPop', WHERE WHAT IT READS IS OF BULK AT MOST 1048576: true; the input reads as it did. -/
def bufferPopUptoRow : OpenClaim := { program := "ytkeaacglaolgpaa", sum := "33c674a96d1cb32dad9f90a3a629aee2ef25e65fbff55880affd68847776888d", func := "tautochrone/tautochronelaw22.BufferPop", spec := "bufferPop", apart := false, narrowed := true }
def BufferPopUptoSaid : Prop := bufferPopUptoRow.holds Try.pinned (OpenSpec.upto bufferPopSpec)

/-- 'tautochronelaw22.BufferOrder', WHERE WHAT IT READS IS OF BULK AT MOST 1048576: true; the input reads as it did. -/
def bufferOrderUptoRow : OpenClaim := { program := "ytkeaacglaolgpaa", sum := "33c674a96d1cb32dad9f90a3a629aee2ef25e65fbff55880affd68847776888d", func := "tautochrone/tautochronelaw22.BufferOrder", spec := "bufferOrder", apart := false, narrowed := true }
def BufferOrderUptoSaid : Prop := bufferOrderUptoRow.holds Try.pinned (OpenSpec.upto bufferOrderSpec)

/-- 'tautochronelaw22.BufferDrain', WHERE WHAT IT READS IS OF BULK AT MOST 1048576: true; the input reads as it did. -/
def bufferDrainUptoRow : OpenClaim := { program := "ytkeaacglaolgpaa", sum := "33c674a96d1cb32dad9f90a3a629aee2ef25e65fbff55880affd68847776888d", func := "tautochrone/tautochronelaw22.BufferDrain", spec := "bufferDrain", apart := false, narrowed := true }
def BufferDrainUptoSaid : Prop := bufferDrainUptoRow.holds Try.pinned (OpenSpec.upto bufferDrainSpec)

/-- 'tautochronelaw22.BufferParts', WHERE WHAT IT READS IS OF BULK AT MOST 1048576: true; the input reads as it did. -/
def bufferPartsUptoRow : OpenClaim := { program := "ytkeaacglaolgpaa", sum := "33c674a96d1cb32dad9f90a3a629aee2ef25e65fbff55880affd68847776888d", func := "tautochrone/tautochronelaw22.BufferParts", spec := "bufferParts", apart := false, narrowed := true }
def BufferPartsUptoSaid : Prop := bufferPartsUptoRow.holds Try.pinned (OpenSpec.upto bufferPartsSpec)

end Rows
end Go.Proofs.Ytkeaacglaolgpaa
