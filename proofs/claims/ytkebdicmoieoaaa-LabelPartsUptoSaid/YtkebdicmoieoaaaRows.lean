/-
  No cell of these rows narrows 'for every input' (looked for: loops, veiled, ifaces, maps, wideKeys, modest, calm, conditions, laid).
  DERIVED. THE GIVEN ROWS OF THIS SEAT. 5 by the template 'for every input the law returns true; each argument reads behind the call as it read before'; 0 by the template 'total and deterministic' (their statements: YtkebdicmoieoaaaTotals.lean).
  GIVEN WITH THE SEED: the statements are not yours to turn. If you find one false, say at which input.
  Laid BY PROGRAM, IN A SANDBOX (cutbox-rows.mjs): the forced cells as the released guide's own fill.sh prints them over the translation 51077b7340e2ec9c… (all of the seat's roots in one cut). By AI agents, Wed Nov 11 2026. No macro, syntax, notation, axiom, sorry.
-/
import Derived.Test.YtkebdicmoieoaaaChecked
import GoSem.Claim
import GoSem.ClaimJoined
import GoSem.ClaimMapViews
import Derived.JoinedTies
import Derived.KernelRfl
namespace Go.Proofs.Ytkebdicmoieoaaa
/- THE CELL 'sum', in the pinned program and in every row, IS THE sha256 OF THE DUMP (.gsa) THAT YtkebdicmoieoaaaProg.lean LOADS. Nothing in Lean hashes anything: it is a label: what it is worth is what the hold of that sum in a sandbox is worth. -/
noncomputable def Try.pinned : Pinned := { name := "ytkebdicmoieoaaa", sum := "51077b7340e2ec9c9f9693c794de0bd0e1057cccfa468b3e3806dcfce6a4f1db", checked := Try.checked }
namespace Rows
def none {H : Type} : Left H := { results := [], args := [] }

/-- 'tautochronelaw02.LabelJoin': WHATEVER THE INPUT: true; the input reads as it did. -/
def labelJoinSpec : ChangeSpec := { name := "labelJoin", fn := fun _ => fun
  | [d] => { results := [.lit (.bool true)], args := [d] }
  | _ => none }
def labelJoinRow : OpenClaim := { program := "ytkebdicmoieoaaa", sum := "51077b7340e2ec9c9f9693c794de0bd0e1057cccfa468b3e3806dcfce6a4f1db", func := "tautochrone/tautochronelaw02.LabelJoin", spec := "labelJoin", apart := false }
def LabelJoinSaid : Prop := labelJoinRow.holds Try.pinned (OpenSpec.ofChange labelJoinSpec)

/-- ITS FALSE NEIGHBOUR: 'it returns false'. Refute it at one input. -/
def labelJoinWrong : ChangeSpec := { name := "labelJoin", fn := fun _ => fun
  | [d] => { results := [.lit (.bool false)], args := [d] }
  | _ => none }
def LabelJoinWrongFalsely : Prop := labelJoinRow.holds Try.pinned (OpenSpec.ofChange labelJoinWrong)

/-- 'tautochronelaw02.LabelFlows': WHATEVER THE INPUT: true; the input reads as it did. -/
def labelFlowsSpec : ChangeSpec := { name := "labelFlows", fn := fun _ => fun
  | [d1, d2] => { results := [.lit (.bool true)], args := [d1, d2] }
  | _ => none }
def labelFlowsRow : OpenClaim := { program := "ytkebdicmoieoaaa", sum := "51077b7340e2ec9c9f9693c794de0bd0e1057cccfa468b3e3806dcfce6a4f1db", func := "tautochrone/tautochronelaw02.LabelFlows", spec := "labelFlows", apart := false }
def LabelFlowsSaid : Prop := labelFlowsRow.holds Try.pinned (OpenSpec.ofChange labelFlowsSpec)

/-- ITS FALSE NEIGHBOUR: 'it returns false'. Refute it at one input. -/
def labelFlowsWrong : ChangeSpec := { name := "labelFlows", fn := fun _ => fun
  | [d1, d2] => { results := [.lit (.bool false)], args := [d1, d2] }
  | _ => none }
def LabelFlowsWrongFalsely : Prop := labelFlowsRow.holds Try.pinned (OpenSpec.ofChange labelFlowsWrong)

/-- 'tautochronelaw02.LabelOrder': WHATEVER THE INPUT: true; the input reads as it did. -/
def labelOrderSpec : ChangeSpec := { name := "labelOrder", fn := fun _ => fun
  | [d1, d2, d3] => { results := [.lit (.bool true)], args := [d1, d2, d3] }
  | _ => none }
def labelOrderRow : OpenClaim := { program := "ytkebdicmoieoaaa", sum := "51077b7340e2ec9c9f9693c794de0bd0e1057cccfa468b3e3806dcfce6a4f1db", func := "tautochrone/tautochronelaw02.LabelOrder", spec := "labelOrder", apart := false }
def LabelOrderSaid : Prop := labelOrderRow.holds Try.pinned (OpenSpec.ofChange labelOrderSpec)

/-- ITS FALSE NEIGHBOUR: 'it returns false'. Refute it at one input. -/
def labelOrderWrong : ChangeSpec := { name := "labelOrder", fn := fun _ => fun
  | [d1, d2, d3] => { results := [.lit (.bool false)], args := [d1, d2, d3] }
  | _ => none }
def LabelOrderWrongFalsely : Prop := labelOrderRow.holds Try.pinned (OpenSpec.ofChange labelOrderWrong)

/-- 'tautochronelaw02.LabelMore': WHATEVER THE INPUT: true; the input reads as it did. -/
def labelMoreSpec : ChangeSpec := { name := "labelMore", fn := fun _ => fun
  | [d1, d2] => { results := [.lit (.bool true)], args := [d1, d2] }
  | _ => none }
def labelMoreRow : OpenClaim := { program := "ytkebdicmoieoaaa", sum := "51077b7340e2ec9c9f9693c794de0bd0e1057cccfa468b3e3806dcfce6a4f1db", func := "tautochrone/tautochronelaw02.LabelMore", spec := "labelMore", apart := false }
def LabelMoreSaid : Prop := labelMoreRow.holds Try.pinned (OpenSpec.ofChange labelMoreSpec)

/-- ITS FALSE NEIGHBOUR: 'it returns false'. Refute it at one input. -/
def labelMoreWrong : ChangeSpec := { name := "labelMore", fn := fun _ => fun
  | [d1, d2] => { results := [.lit (.bool false)], args := [d1, d2] }
  | _ => none }
def LabelMoreWrongFalsely : Prop := labelMoreRow.holds Try.pinned (OpenSpec.ofChange labelMoreWrong)

/-- 'tautochronelaw02.LabelParts': WHATEVER THE INPUT: true; the input reads as it did. -/
def labelPartsSpec : ChangeSpec := { name := "labelParts", fn := fun _ => fun
  | [d1, d2] => { results := [.lit (.bool true)], args := [d1, d2] }
  | _ => none }
def labelPartsRow : OpenClaim := { program := "ytkebdicmoieoaaa", sum := "51077b7340e2ec9c9f9693c794de0bd0e1057cccfa468b3e3806dcfce6a4f1db", func := "tautochrone/tautochronelaw02.LabelParts", spec := "labelParts", apart := false }
def LabelPartsSaid : Prop := labelPartsRow.holds Try.pinned (OpenSpec.ofChange labelPartsSpec)

/-- ITS FALSE NEIGHBOUR: 'it returns false'. Refute it at one input. -/
def labelPartsWrong : ChangeSpec := { name := "labelParts", fn := fun _ => fun
  | [d1, d2] => { results := [.lit (.bool false)], args := [d1, d2] }
  | _ => none }
def LabelPartsWrongFalsely : Prop := labelPartsRow.holds Try.pinned (OpenSpec.ofChange labelPartsWrong)

/- THE SECOND FORM. 'bulk': how many values and letters a reading holds, each counted each time it is reached (what is shared counts as often as it is met; a slice's spare places count too). A statement '..UptoSaid' is the law's where the arguments, and the package variables that the reading takes, are together of bulk at most 1048576: NARROWER than '..Said'. Prove '..Said' where nothing that the law and all that it calls make is longer than what came in: it says more and counts as full. Else prove '..UptoSaid'. A law counts once. -/
mutual
def uptoBulk {H : Type} : DataW H → Nat
  | .lit (.string bytes) => bytes.length + 1
  | .lit _ => 1
  | .nil => 1
  | .ptr d => uptoBulk d + 1
  | .slice elems spare => uptoBulkAll elems + uptoBulkAll spare + 1
  | .agg parts => uptoBulkAll parts + 1
  | .iface _ d => uptoBulk d + 1
  | .map entries => uptoBulkEntries entries + 1
  | .held _ => 1
def uptoBulkAll {H : Type} : List (DataW H) → Nat
  | [] => 0
  | d :: r => uptoBulk d + uptoBulkAll r
def uptoBulkEntries {H : Type} : List (Lit × DataW H) → Nat
  | [] => 0
  | x :: r => uptoBulkEntry x + uptoBulkEntries r
def uptoBulkEntry {H : Type} : Lit × DataW H → Nat
  | (.string bytes, d) => bytes.length + uptoBulk d + 1
  | (_, d) => uptoBulk d + 1
 end
def uptoSmall : (H : Type) → List (DataW H) → Bool := fun _ ds => decide (uptoBulkAll ds ≤ 1048576)
def OpenSpec.upto (s : _root_.Go.ChangeSpec) : _root_.Go.OpenSpec := { _root_.Go.OpenSpec.ofChange s with cond := some uptoSmall }

/-- 'tautochronelaw02.LabelJoin', WHERE WHAT IT READS IS OF BULK AT MOST 1048576: true; the input reads as it did. -/
def labelJoinUptoRow : OpenClaim := { program := "ytkebdicmoieoaaa", sum := "51077b7340e2ec9c9f9693c794de0bd0e1057cccfa468b3e3806dcfce6a4f1db", func := "tautochrone/tautochronelaw02.LabelJoin", spec := "labelJoin", apart := false, narrowed := true }
def LabelJoinUptoSaid : Prop := labelJoinUptoRow.holds Try.pinned (OpenSpec.upto labelJoinSpec)

/-- 'tautochronelaw02.LabelFlows', WHERE WHAT IT READS IS OF BULK AT MOST 1048576: true; the input reads as it did. -/
def labelFlowsUptoRow : OpenClaim := { program := "ytkebdicmoieoaaa", sum := "51077b7340e2ec9c9f9693c794de0bd0e1057cccfa468b3e3806dcfce6a4f1db", func := "tautochrone/tautochronelaw02.LabelFlows", spec := "labelFlows", apart := false, narrowed := true }
def LabelFlowsUptoSaid : Prop := labelFlowsUptoRow.holds Try.pinned (OpenSpec.upto labelFlowsSpec)

/-- 'tautochronelaw02.LabelOrder', WHERE WHAT IT READS IS OF BULK AT MOST 1048576: true; the input reads as it did. -/
def labelOrderUptoRow : OpenClaim := { program := "ytkebdicmoieoaaa", sum := "51077b7340e2ec9c9f9693c794de0bd0e1057cccfa468b3e3806dcfce6a4f1db", func := "tautochrone/tautochronelaw02.LabelOrder", spec := "labelOrder", apart := false, narrowed := true }
def LabelOrderUptoSaid : Prop := labelOrderUptoRow.holds Try.pinned (OpenSpec.upto labelOrderSpec)

/-- 'tautochronelaw02.LabelMore', WHERE WHAT IT READS IS OF BULK AT MOST 1048576: true; the input reads as it did. -/
def labelMoreUptoRow : OpenClaim := { program := "ytkebdicmoieoaaa", sum := "51077b7340e2ec9c9f9693c794de0bd0e1057cccfa468b3e3806dcfce6a4f1db", func := "tautochrone/tautochronelaw02.LabelMore", spec := "labelMore", apart := false, narrowed := true }
def LabelMoreUptoSaid : Prop := labelMoreUptoRow.holds Try.pinned (OpenSpec.upto labelMoreSpec)

/-- 'tautochronelaw02.LabelParts', WHERE WHAT IT READS IS OF BULK AT MOST 1048576: true; the input reads as it did. -/
def labelPartsUptoRow : OpenClaim := { program := "ytkebdicmoieoaaa", sum := "51077b7340e2ec9c9f9693c794de0bd0e1057cccfa468b3e3806dcfce6a4f1db", func := "tautochrone/tautochronelaw02.LabelParts", spec := "labelParts", apart := false, narrowed := true }
def LabelPartsUptoSaid : Prop := labelPartsUptoRow.holds Try.pinned (OpenSpec.upto labelPartsSpec)

end Rows
end Go.Proofs.Ytkebdicmoieoaaa
