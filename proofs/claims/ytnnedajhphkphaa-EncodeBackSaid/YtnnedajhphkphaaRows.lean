/-
  No cell of these rows narrows 'for every input' (looked for: loops, veiled, ifaces, maps, wideKeys, modest, calm, conditions, laid).
  DERIVED. THE GIVEN ROWS OF THIS SEAT. 5 by the template 'for every input the law returns true; each argument reads behind the call as it read before'; 0 by the template 'total and deterministic' (their statements: YtnnedajhphkphaaTotals.lean).
  GIVEN WITH THE SEED: the statements are not yours to turn. If you find one false, say at which input.
  Laid BY PROGRAM, IN A SANDBOX (cutbox-rows.mjs): the forced cells as the released guide's own fill.sh prints them over the translation 61cea1aff6c97742… (all of the seat's roots in one cut). By AI agents, Wed Nov 11 2026. No macro, syntax, notation, axiom, sorry.
-/
import Derived.Test.YtnnedajhphkphaaChecked
import GoSem.Claim
import GoSem.ClaimJoined
import GoSem.ClaimMapViews
import Derived.JoinedTies
import Derived.KernelRfl
namespace Go.Proofs.Ytnnedajhphkphaa
/- THE CELL 'sum', in the pinned program and in every row, IS THE sha256 OF THE DUMP (.gsa) THAT YtnnedajhphkphaaProg.lean LOADS. Nothing in Lean hashes anything: it is a label: what it is worth is what the hold of that sum in a sandbox is worth. -/
noncomputable def Try.pinned : Pinned := { name := "ytnnedajhphkphaa", sum := "61cea1aff6c9774279b6129f62760476bb1634672f1814e42b9c294c88e5d1f6", checked := Try.checked }
namespace Rows
def none {H : Type} : Left H := { results := [], args := [] }

/-- 'tautochronelaw20.EncodeBare': WHATEVER THE INPUT: true; the input reads as it did. -/
def encodeBareSpec : ChangeSpec := { name := "encodeBare", fn := fun _ => fun
  | [d] => { results := [.lit (.bool true)], args := [d] }
  | _ => none }
def encodeBareRow : OpenClaim := { program := "ytnnedajhphkphaa", sum := "61cea1aff6c9774279b6129f62760476bb1634672f1814e42b9c294c88e5d1f6", func := "tautochrone/tautochronelaw20.EncodeBare", spec := "encodeBare", apart := false }
def EncodeBareSaid : Prop := encodeBareRow.holds Try.pinned (OpenSpec.ofChange encodeBareSpec)

/-- ITS FALSE NEIGHBOUR: 'it returns false'. Refute it at one input. -/
def encodeBareWrong : ChangeSpec := { name := "encodeBare", fn := fun _ => fun
  | [d] => { results := [.lit (.bool false)], args := [d] }
  | _ => none }
def EncodeBareWrongFalsely : Prop := encodeBareRow.holds Try.pinned (OpenSpec.ofChange encodeBareWrong)

/-- 'tautochronelaw20.EncodeBytes': WHATEVER THE INPUT: true; the input reads as it did. -/
def encodeBytesSpec : ChangeSpec := { name := "encodeBytes", fn := fun _ => fun
  | [d] => { results := [.lit (.bool true)], args := [d] }
  | _ => none }
def encodeBytesRow : OpenClaim := { program := "ytnnedajhphkphaa", sum := "61cea1aff6c9774279b6129f62760476bb1634672f1814e42b9c294c88e5d1f6", func := "tautochrone/tautochronelaw20.EncodeBytes", spec := "encodeBytes", apart := false }
def EncodeBytesSaid : Prop := encodeBytesRow.holds Try.pinned (OpenSpec.ofChange encodeBytesSpec)

/-- ITS FALSE NEIGHBOUR: 'it returns false'. Refute it at one input. -/
def encodeBytesWrong : ChangeSpec := { name := "encodeBytes", fn := fun _ => fun
  | [d] => { results := [.lit (.bool false)], args := [d] }
  | _ => none }
def EncodeBytesWrongFalsely : Prop := encodeBytesRow.holds Try.pinned (OpenSpec.ofChange encodeBytesWrong)

/-- 'tautochronelaw20.EncodeTwo': WHATEVER THE INPUT: true; the input reads as it did. -/
def encodeTwoSpec : ChangeSpec := { name := "encodeTwo", fn := fun _ => fun
  | [d1, d2] => { results := [.lit (.bool true)], args := [d1, d2] }
  | _ => none }
def encodeTwoRow : OpenClaim := { program := "ytnnedajhphkphaa", sum := "61cea1aff6c9774279b6129f62760476bb1634672f1814e42b9c294c88e5d1f6", func := "tautochrone/tautochronelaw20.EncodeTwo", spec := "encodeTwo", apart := false }
def EncodeTwoSaid : Prop := encodeTwoRow.holds Try.pinned (OpenSpec.ofChange encodeTwoSpec)

/-- ITS FALSE NEIGHBOUR: 'it returns false'. Refute it at one input. -/
def encodeTwoWrong : ChangeSpec := { name := "encodeTwo", fn := fun _ => fun
  | [d1, d2] => { results := [.lit (.bool false)], args := [d1, d2] }
  | _ => none }
def EncodeTwoWrongFalsely : Prop := encodeTwoRow.holds Try.pinned (OpenSpec.ofChange encodeTwoWrong)

/-- 'tautochronelaw20.EncodeBack': WHATEVER THE INPUT: true; the input reads as it did. -/
def encodeBackSpec : ChangeSpec := { name := "encodeBack", fn := fun _ => fun
  | [d1, d2, d3, d4] => { results := [.lit (.bool true)], args := [d1, d2, d3, d4] }
  | _ => none }
def encodeBackRow : OpenClaim := { program := "ytnnedajhphkphaa", sum := "61cea1aff6c9774279b6129f62760476bb1634672f1814e42b9c294c88e5d1f6", func := "tautochrone/tautochronelaw20.EncodeBack", spec := "encodeBack", apart := false }
def EncodeBackSaid : Prop := encodeBackRow.holds Try.pinned (OpenSpec.ofChange encodeBackSpec)

/-- ITS FALSE NEIGHBOUR: 'it returns false'. Refute it at one input. -/
def encodeBackWrong : ChangeSpec := { name := "encodeBack", fn := fun _ => fun
  | [d1, d2, d3, d4] => { results := [.lit (.bool false)], args := [d1, d2, d3, d4] }
  | _ => none }
def EncodeBackWrongFalsely : Prop := encodeBackRow.holds Try.pinned (OpenSpec.ofChange encodeBackWrong)

/-- 'tautochronelaw20.EncodeAll': WHATEVER THE INPUT: true; the input reads as it did. -/
def encodeAllSpec : ChangeSpec := { name := "encodeAll", fn := fun _ => fun
  | [d] => { results := [.lit (.bool true)], args := [d] }
  | _ => none }
def encodeAllRow : OpenClaim := { program := "ytnnedajhphkphaa", sum := "61cea1aff6c9774279b6129f62760476bb1634672f1814e42b9c294c88e5d1f6", func := "tautochrone/tautochronelaw20.EncodeAll", spec := "encodeAll", apart := false }
def EncodeAllSaid : Prop := encodeAllRow.holds Try.pinned (OpenSpec.ofChange encodeAllSpec)

/-- ITS FALSE NEIGHBOUR: 'it returns false'. Refute it at one input. -/
def encodeAllWrong : ChangeSpec := { name := "encodeAll", fn := fun _ => fun
  | [d] => { results := [.lit (.bool false)], args := [d] }
  | _ => none }
def EncodeAllWrongFalsely : Prop := encodeAllRow.holds Try.pinned (OpenSpec.ofChange encodeAllWrong)

/- THE SECOND FORM. 'bulk': how many values and letters a reading holds, each counted each time it is reached (what is shared counts as often as it is met; a slice's spare places count too). A statement '..UptoSaid' is the law's where the arguments, and the package variables that the reading takes, are together of bulk at most 1048576: NARROWER than '..Said'. Prove '..Said' where nothing that the law and all that it calls make is longer than what came in: it says more and counts as full. Else prove '..UptoSaid'. A law counts once. -/
mutual
def uptoBulk {H : Type} : DataW H → Nat
  | .lit (.string bytes) => bytes.length + 1
  | .lit _ => 1
  | .nil => 1
  | .ptr d => uptoBulk d + 1
  | .slice elems spare => uptoBulkAll elems + uptoBulkAll spare + 1
  | .agg parts => uptoBulkAll parts + 1
  | .iface _ d => uptoBulk d + 1
  | .map entries => uptoBulkEntries entries + 1
  | .held _ => 1
def uptoBulkAll {H : Type} : List (DataW H) → Nat
  | [] => 0
  | d :: r => uptoBulk d + uptoBulkAll r
def uptoBulkEntries {H : Type} : List (Lit × DataW H) → Nat
  | [] => 0
  | x :: r => uptoBulkEntry x + uptoBulkEntries r
def uptoBulkEntry {H : Type} : Lit × DataW H → Nat
  | (.string bytes, d) => bytes.length + uptoBulk d + 1
  | (_, d) => uptoBulk d + 1
 end
def uptoSmall : (H : Type) → List (DataW H) → Bool := fun _ ds => decide (uptoBulkAll ds ≤ 1048576)
def OpenSpec.upto (s : _root_.Go.ChangeSpec) : _root_.Go.OpenSpec := { _root_.Go.OpenSpec.ofChange s with cond := some uptoSmall }

/-- 'tautochronelaw20.EncodeBare', WHERE WHAT IT READS IS OF BULK AT MOST 1048576: true; the input reads as it did. -/
def encodeBareUptoRow : OpenClaim := { program := "ytnnedajhphkphaa", sum := "61cea1aff6c9774279b6129f62760476bb1634672f1814e42b9c294c88e5d1f6", func := "tautochrone/tautochronelaw20.EncodeBare", spec := "encodeBare", apart := false, narrowed := true }
def EncodeBareUptoSaid : Prop := encodeBareUptoRow.holds Try.pinned (OpenSpec.upto encodeBareSpec)

/-- 'tautochronelaw20.EncodeBytes', WHERE WHAT IT READS IS OF BULK AT MOST 1048576: true; the input reads as it did. -/
def encodeBytesUptoRow : OpenClaim := { program := "ytnnedajhphkphaa", sum := "61cea1aff6c9774279b6129f62760476bb1634672f1814e42b9c294c88e5d1f6", func := "tautochrone/tautochronelaw20.EncodeBytes", spec := "encodeBytes", apart := false, narrowed := true }
def EncodeBytesUptoSaid : Prop := encodeBytesUptoRow.holds Try.pinned (OpenSpec.upto encodeBytesSpec)

/-- 'tautochronelaw20.EncodeTwo', WHERE WHAT IT READS IS OF BULK AT MOST 1048576: true; the input reads as it did. -/
def encodeTwoUptoRow : OpenClaim := { program := "ytnnedajhphkphaa", sum := "61cea1aff6c9774279b6129f62760476bb1634672f1814e42b9c294c88e5d1f6", func := "tautochrone/tautochronelaw20.EncodeTwo", spec := "encodeTwo", apart := false, narrowed := true }
def EncodeTwoUptoSaid : Prop := encodeTwoUptoRow.holds Try.pinned (OpenSpec.upto encodeTwoSpec)

/-- 'tautochronelaw20.EncodeBack', WHERE WHAT IT READS IS OF BULK AT MOST 1048576: true; the input reads as it did. -/
def encodeBackUptoRow : OpenClaim := { program := "ytnnedajhphkphaa", sum := "61cea1aff6c9774279b6129f62760476bb1634672f1814e42b9c294c88e5d1f6", func := "tautochrone/tautochronelaw20.EncodeBack", spec := "encodeBack", apart := false, narrowed := true }
def EncodeBackUptoSaid : Prop := encodeBackUptoRow.holds Try.pinned (OpenSpec.upto encodeBackSpec)

/-- 'tautochronelaw20.EncodeAll', WHERE WHAT IT READS IS OF BULK AT MOST 1048576: true; the input reads as it did. -/
def encodeAllUptoRow : OpenClaim := { program := "ytnnedajhphkphaa", sum := "61cea1aff6c9774279b6129f62760476bb1634672f1814e42b9c294c88e5d1f6", func := "tautochrone/tautochronelaw20.EncodeAll", spec := "encodeAll", apart := false, narrowed := true }
def EncodeAllUptoSaid : Prop := encodeAllUptoRow.holds Try.pinned (OpenSpec.upto encodeAllSpec)

end Rows
end Go.Proofs.Ytnnedajhphkphaa
