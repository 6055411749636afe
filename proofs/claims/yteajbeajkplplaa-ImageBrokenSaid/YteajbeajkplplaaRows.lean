/-
  No cell of these rows narrows 'for every input' (looked for: loops, veiled, ifaces, maps, wideKeys, modest, calm, conditions, laid).
  DERIVED. THE GIVEN ROWS OF THIS SEAT. 4 by the template 'for every input the law returns true; each argument reads behind the call as it read before'; 0 by the template 'total and deterministic' (their statements: YteajbeajkplplaaTotals.lean).
  GIVEN WITH THE SEED: the statements are not yours to turn. If you find one false, say at which input.
  Laid BY PROGRAM, IN A SANDBOX (cutbox-rows.mjs): the forced cells as the released guide's own fill.sh prints them over the translation 7a8edabb7b959b7b… (all of the seat's roots in one cut). By AI agents, Wed Nov 11 2026. No macro, syntax, notation, axiom, sorry.
-/
import Derived.Test.YteajbeajkplplaaChecked
import GoSem.Claim
import GoSem.ClaimJoined
import GoSem.ClaimMapViews
import Derived.JoinedTies
import Derived.KernelRfl
namespace Go.Proofs.Yteajbeajkplplaa
/- THE CELL 'sum', in the pinned program and in every row, IS THE sha256 OF THE DUMP (.gsa) THAT YteajbeajkplplaaProg.lean LOADS. Nothing in Lean hashes anything: it is a label: what it is worth is what the hold of that sum in a sandbox is worth. -/
noncomputable def Try.pinned : Pinned := { name := "yteajbeajkplplaa", sum := "7a8edabb7b959b7b138fa0a407e69f9dac3972b9320242a9d13e056761dc10ce", checked := Try.checked }
namespace Rows
def none {H : Type} : Left H := { results := [], args := [] }

/-- 'tautochronelaw21.ImageMay': WHATEVER THE INPUT: true; the input reads as it did. -/
def imageMaySpec : ChangeSpec := { name := "imageMay", fn := fun _ => fun
  | [d1, d2, d3, d4] => { results := [.lit (.bool true)], args := [d1, d2, d3, d4] }
  | _ => none }
def imageMayRow : OpenClaim := { program := "yteajbeajkplplaa", sum := "7a8edabb7b959b7b138fa0a407e69f9dac3972b9320242a9d13e056761dc10ce", func := "tautochrone/tautochronelaw21.ImageMay", spec := "imageMay", apart := false }
def ImageMaySaid : Prop := imageMayRow.holds Try.pinned (OpenSpec.ofChange imageMaySpec)

/-- ITS FALSE NEIGHBOUR: 'it returns false'. Refute it at one input. -/
def imageMayWrong : ChangeSpec := { name := "imageMay", fn := fun _ => fun
  | [d1, d2, d3, d4] => { results := [.lit (.bool false)], args := [d1, d2, d3, d4] }
  | _ => none }
def ImageMayWrongFalsely : Prop := imageMayRow.holds Try.pinned (OpenSpec.ofChange imageMayWrong)

/-- 'tautochronelaw21.ImageTwo': WHATEVER THE INPUT: true; the input reads as it did. -/
def imageTwoSpec : ChangeSpec := { name := "imageTwo", fn := fun _ => fun
  | [d1, d2, d3, d4] => { results := [.lit (.bool true)], args := [d1, d2, d3, d4] }
  | _ => none }
def imageTwoRow : OpenClaim := { program := "yteajbeajkplplaa", sum := "7a8edabb7b959b7b138fa0a407e69f9dac3972b9320242a9d13e056761dc10ce", func := "tautochrone/tautochronelaw21.ImageTwo", spec := "imageTwo", apart := false }
def ImageTwoSaid : Prop := imageTwoRow.holds Try.pinned (OpenSpec.ofChange imageTwoSpec)

/-- ITS FALSE NEIGHBOUR: 'it returns false'. Refute it at one input. -/
def imageTwoWrong : ChangeSpec := { name := "imageTwo", fn := fun _ => fun
  | [d1, d2, d3, d4] => { results := [.lit (.bool false)], args := [d1, d2, d3, d4] }
  | _ => none }
def ImageTwoWrongFalsely : Prop := imageTwoRow.holds Try.pinned (OpenSpec.ofChange imageTwoWrong)

/-- 'tautochronelaw21.ImageBytes': WHATEVER THE INPUT: true; the input reads as it did. -/
def imageBytesSpec : ChangeSpec := { name := "imageBytes", fn := fun _ => fun
  | [d1, d2, d3] => { results := [.lit (.bool true)], args := [d1, d2, d3] }
  | _ => none }
def imageBytesRow : OpenClaim := { program := "yteajbeajkplplaa", sum := "7a8edabb7b959b7b138fa0a407e69f9dac3972b9320242a9d13e056761dc10ce", func := "tautochrone/tautochronelaw21.ImageBytes", spec := "imageBytes", apart := false }
def ImageBytesSaid : Prop := imageBytesRow.holds Try.pinned (OpenSpec.ofChange imageBytesSpec)

/-- ITS FALSE NEIGHBOUR: 'it returns false'. Refute it at one input. -/
def imageBytesWrong : ChangeSpec := { name := "imageBytes", fn := fun _ => fun
  | [d1, d2, d3] => { results := [.lit (.bool false)], args := [d1, d2, d3] }
  | _ => none }
def ImageBytesWrongFalsely : Prop := imageBytesRow.holds Try.pinned (OpenSpec.ofChange imageBytesWrong)

/-- 'tautochronelaw21.ImageBroken': WHATEVER THE INPUT: true; the input reads as it did. -/
def imageBrokenSpec : ChangeSpec := { name := "imageBroken", fn := fun _ => fun
  | [d1, d2, d3, d4, d5, d6] => { results := [.lit (.bool true)], args := [d1, d2, d3, d4, d5, d6] }
  | _ => none }
def imageBrokenRow : OpenClaim := { program := "yteajbeajkplplaa", sum := "7a8edabb7b959b7b138fa0a407e69f9dac3972b9320242a9d13e056761dc10ce", func := "tautochrone/tautochronelaw21.ImageBroken", spec := "imageBroken", apart := false }
def ImageBrokenSaid : Prop := imageBrokenRow.holds Try.pinned (OpenSpec.ofChange imageBrokenSpec)

/-- ITS FALSE NEIGHBOUR: 'it returns false'. Refute it at one input. -/
def imageBrokenWrong : ChangeSpec := { name := "imageBroken", fn := fun _ => fun
  | [d1, d2, d3, d4, d5, d6] => { results := [.lit (.bool false)], args := [d1, d2, d3, d4, d5, d6] }
  | _ => none }
def ImageBrokenWrongFalsely : Prop := imageBrokenRow.holds Try.pinned (OpenSpec.ofChange imageBrokenWrong)

/- THE SECOND FORM. 'bulk': how many values and letters a reading holds, each counted each time it is reached (what is shared counts as often as it is met; a slice's spare places count too). A statement '..UptoSaid' is the law's where the arguments, and the package variables that the reading takes, are together of bulk at most 1048576: NARROWER than '..Said'. Prove '..Said' where nothing that the law and all that it calls make is longer than what came in: it says more and counts as full. Else prove '..UptoSaid'. A law counts once. -/
mutual
def uptoBulk {H : Type} : DataW H → Nat
  | .lit (.string bytes) => bytes.length + 1
  | .lit _ => 1
  | .nil => 1
  | .ptr d => uptoBulk d + 1
  | .slice elems spare => uptoBulkAll elems + uptoBulkAll spare + 1
  | .agg parts => uptoBulkAll parts + 1
  | .iface _ d => uptoBulk d + 1
  | .map entries => uptoBulkEntries entries + 1
  | .held _ => 1
def uptoBulkAll {H : Type} : List (DataW H) → Nat
  | [] => 0
  | d :: r => uptoBulk d + uptoBulkAll r
def uptoBulkEntries {H : Type} : List (Lit × DataW H) → Nat
  | [] => 0
  | x :: r => uptoBulkEntry x + uptoBulkEntries r
def uptoBulkEntry {H : Type} : Lit × DataW H → Nat
  | (.string bytes, d) => bytes.length + uptoBulk d + 1
  | (_, d) => uptoBulk d + 1
 end
def uptoSmall : (H : Type) → List (DataW H) → Bool := fun _ ds => decide (uptoBulkAll ds ≤ 1048576)
def OpenSpec.upto (s : _root_.Go.ChangeSpec) : _root_.Go.OpenSpec := { _root_.Go.OpenSpec.ofChange s with cond := some uptoSmall }

/-- 'tautochronelaw21.ImageMay', WHERE WHAT IT READS IS OF BULK AT MOST 1048576: true; the input reads as it did. -/
def imageMayUptoRow : OpenClaim := { program := "yteajbeajkplplaa", sum := "7a8edabb7b959b7b138fa0a407e69f9dac3972b9320242a9d13e056761dc10ce", func := "tautochrone/tautochronelaw21.ImageMay", spec := "imageMay", apart := false, narrowed := true }
def ImageMayUptoSaid : Prop := imageMayUptoRow.holds Try.pinned (OpenSpec.upto imageMaySpec)

/-- 'tautochronelaw21.ImageTwo', WHERE WHAT IT READS IS OF BULK AT MOST 1048576: true; the input reads as it did. -/
def imageTwoUptoRow : OpenClaim := { program := "yteajbeajkplplaa", sum := "7a8edabb7b959b7b138fa0a407e69f9dac3972b9320242a9d13e056761dc10ce", func := "tautochrone/tautochronelaw21.ImageTwo", spec := "imageTwo", apart := false, narrowed := true }
def ImageTwoUptoSaid : Prop := imageTwoUptoRow.holds Try.pinned (OpenSpec.upto imageTwoSpec)

/-- 'tautochronelaw21.ImageBytes', WHERE WHAT IT READS IS OF BULK AT MOST 1048576: true; the input reads as it did. -/
def imageBytesUptoRow : OpenClaim := { program := "yteajbeajkplplaa", sum := "7a8edabb7b959b7b138fa0a407e69f9dac3972b9320242a9d13e056761dc10ce", func := "tautochrone/tautochronelaw21.ImageBytes", spec := "imageBytes", apart := false, narrowed := true }
def ImageBytesUptoSaid : Prop := imageBytesUptoRow.holds Try.pinned (OpenSpec.upto imageBytesSpec)

/-- 'tautochronelaw21.ImageBroken', WHERE WHAT IT READS IS OF BULK AT MOST 1048576: true; the input reads as it did. -/
def imageBrokenUptoRow : OpenClaim := { program := "yteajbeajkplplaa", sum := "7a8edabb7b959b7b138fa0a407e69f9dac3972b9320242a9d13e056761dc10ce", func := "tautochrone/tautochronelaw21.ImageBroken", spec := "imageBroken", apart := false, narrowed := true }
def ImageBrokenUptoSaid : Prop := imageBrokenUptoRow.holds Try.pinned (OpenSpec.upto imageBrokenSpec)

end Rows
end Go.Proofs.Yteajbeajkplplaa
