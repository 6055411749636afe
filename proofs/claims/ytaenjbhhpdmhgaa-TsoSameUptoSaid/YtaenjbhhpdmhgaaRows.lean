/-
  No cell of these rows narrows 'for every input' (looked for: loops, veiled, ifaces, maps, wideKeys, modest, calm, conditions, laid).
  DERIVED. THE GIVEN ROWS OF THIS SEAT. 6 by the template 'for every input the law returns true; each argument reads behind the call as it read before'; 0 by the template 'total and deterministic' (their statements: YtaenjbhhpdmhgaaTotals.lean).
  GIVEN WITH THE SEED: the statements are not yours to turn. If you find one false, say at which input.
  Laid BY PROGRAM, IN A SANDBOX (cutbox-rows.mjs): the forced cells as the released guide's own fill.sh prints them over the translation d89dbc65c3656741… (all of the seat's roots in one cut). By AI agents, Wed Nov 11 2026. No macro, syntax, notation, axiom, sorry.
-/
import Derived.Test.YtaenjbhhpdmhgaaChecked
import GoSem.Claim
import GoSem.ClaimJoined
import GoSem.ClaimMapViews
import Derived.JoinedTies
import Derived.KernelRfl
namespace Go.Proofs.Ytaenjbhhpdmhgaa
/- THE CELL 'sum', in the pinned program and in every row, IS THE sha256 OF THE DUMP (.gsa) THAT YtaenjbhhpdmhgaaProg.lean LOADS. Nothing in Lean hashes anything: it is a label: what it is worth is what the hold of that sum in a sandbox is worth. -/
noncomputable def Try.pinned : Pinned := { name := "ytaenjbhhpdmhgaa", sum := "d89dbc65c3656741769c884738fd834e951a8f05389a0e4dfaf19e77a29ec758", checked := Try.checked }
namespace Rows
def none {H : Type} : Left H := { results := [], args := [] }

/-- 'tautochronelaw23.TsoLocks': WHATEVER THE INPUT: true; the input reads as it did. -/
def tsoLocksSpec : ChangeSpec := { name := "tsoLocks", fn := fun _ => fun
  | [d] => { results := [.lit (.bool true)], args := [d] }
  | _ => none }
def tsoLocksRow : OpenClaim := { program := "ytaenjbhhpdmhgaa", sum := "d89dbc65c3656741769c884738fd834e951a8f05389a0e4dfaf19e77a29ec758", func := "tautochrone/tautochronelaw23.TsoLocks", spec := "tsoLocks", inPlace := ["sync/atomic.AddInt64", "sync/atomic.LoadInt64"], unfollowed := true, recurses := true, apart := false }
def TsoLocksSaid : Prop := tsoLocksRow.holds Try.pinned (OpenSpec.ofChange tsoLocksSpec)

/-- ITS FALSE NEIGHBOUR: 'it returns false'. Refute it at one input. -/
def tsoLocksWrong : ChangeSpec := { name := "tsoLocks", fn := fun _ => fun
  | [d] => { results := [.lit (.bool false)], args := [d] }
  | _ => none }
def TsoLocksWrongFalsely : Prop := tsoLocksRow.holds Try.pinned (OpenSpec.ofChange tsoLocksWrong)

/-- 'tautochronelaw23.TsoOwn': WHATEVER THE INPUT: true; the input reads as it did. -/
def tsoOwnSpec : ChangeSpec := { name := "tsoOwn", fn := fun _ => fun
  | [d1, d2] => { results := [.lit (.bool true)], args := [d1, d2] }
  | _ => none }
def tsoOwnRow : OpenClaim := { program := "ytaenjbhhpdmhgaa", sum := "d89dbc65c3656741769c884738fd834e951a8f05389a0e4dfaf19e77a29ec758", func := "tautochrone/tautochronelaw23.TsoOwn", spec := "tsoOwn", inPlace := ["sync/atomic.AddInt64", "sync/atomic.LoadInt64"], unfollowed := true, recurses := true, apart := false }
def TsoOwnSaid : Prop := tsoOwnRow.holds Try.pinned (OpenSpec.ofChange tsoOwnSpec)

/-- ITS FALSE NEIGHBOUR: 'it returns false'. Refute it at one input. -/
def tsoOwnWrong : ChangeSpec := { name := "tsoOwn", fn := fun _ => fun
  | [d1, d2] => { results := [.lit (.bool false)], args := [d1, d2] }
  | _ => none }
def TsoOwnWrongFalsely : Prop := tsoOwnRow.holds Try.pinned (OpenSpec.ofChange tsoOwnWrong)

/-- 'tautochronelaw23.TsoFence': WHATEVER THE INPUT: true; the input reads as it did. -/
def tsoFenceSpec : ChangeSpec := { name := "tsoFence", fn := fun _ => fun
  | [d1, d2] => { results := [.lit (.bool true)], args := [d1, d2] }
  | _ => none }
def tsoFenceRow : OpenClaim := { program := "ytaenjbhhpdmhgaa", sum := "d89dbc65c3656741769c884738fd834e951a8f05389a0e4dfaf19e77a29ec758", func := "tautochrone/tautochronelaw23.TsoFence", spec := "tsoFence", inPlace := ["sync/atomic.AddInt64", "sync/atomic.LoadInt64"], unfollowed := true, recurses := true, apart := false }
def TsoFenceSaid : Prop := tsoFenceRow.holds Try.pinned (OpenSpec.ofChange tsoFenceSpec)

/-- ITS FALSE NEIGHBOUR: 'it returns false'. Refute it at one input. -/
def tsoFenceWrong : ChangeSpec := { name := "tsoFence", fn := fun _ => fun
  | [d1, d2] => { results := [.lit (.bool false)], args := [d1, d2] }
  | _ => none }
def TsoFenceWrongFalsely : Prop := tsoFenceRow.holds Try.pinned (OpenSpec.ofChange tsoFenceWrong)

/-- 'tautochronelaw23.TsoNone': WHATEVER THE INPUT: true; the input reads as it did. -/
def tsoNoneSpec : ChangeSpec := { name := "tsoNone", fn := fun _ => fun
  | [d1, d2, d3] => { results := [.lit (.bool true)], args := [d1, d2, d3] }
  | _ => none }
def tsoNoneRow : OpenClaim := { program := "ytaenjbhhpdmhgaa", sum := "d89dbc65c3656741769c884738fd834e951a8f05389a0e4dfaf19e77a29ec758", func := "tautochrone/tautochronelaw23.TsoNone", spec := "tsoNone", inPlace := ["sync/atomic.AddInt64", "sync/atomic.LoadInt64"], unfollowed := true, recurses := true, apart := false }
def TsoNoneSaid : Prop := tsoNoneRow.holds Try.pinned (OpenSpec.ofChange tsoNoneSpec)

/-- ITS FALSE NEIGHBOUR: 'it returns false'. Refute it at one input. -/
def tsoNoneWrong : ChangeSpec := { name := "tsoNone", fn := fun _ => fun
  | [d1, d2, d3] => { results := [.lit (.bool false)], args := [d1, d2, d3] }
  | _ => none }
def TsoNoneWrongFalsely : Prop := tsoNoneRow.holds Try.pinned (OpenSpec.ofChange tsoNoneWrong)

/-- 'tautochronelaw23.TsoScript': WHATEVER THE INPUT: true; the input reads as it did. -/
def tsoScriptSpec : ChangeSpec := { name := "tsoScript", fn := fun _ => fun
  | [d1, d2, d3, d4, d5] => { results := [.lit (.bool true)], args := [d1, d2, d3, d4, d5] }
  | _ => none }
def tsoScriptRow : OpenClaim := { program := "ytaenjbhhpdmhgaa", sum := "d89dbc65c3656741769c884738fd834e951a8f05389a0e4dfaf19e77a29ec758", func := "tautochrone/tautochronelaw23.TsoScript", spec := "tsoScript", inPlace := ["sync/atomic.AddInt64", "sync/atomic.LoadInt64"], unfollowed := true, recurses := true, apart := false }
def TsoScriptSaid : Prop := tsoScriptRow.holds Try.pinned (OpenSpec.ofChange tsoScriptSpec)

/-- ITS FALSE NEIGHBOUR: 'it returns false'. Refute it at one input. -/
def tsoScriptWrong : ChangeSpec := { name := "tsoScript", fn := fun _ => fun
  | [d1, d2, d3, d4, d5] => { results := [.lit (.bool false)], args := [d1, d2, d3, d4, d5] }
  | _ => none }
def TsoScriptWrongFalsely : Prop := tsoScriptRow.holds Try.pinned (OpenSpec.ofChange tsoScriptWrong)

/-- 'tautochronelaw23.TsoSame': WHATEVER THE INPUT: true; the input reads as it did. -/
def tsoSameSpec : ChangeSpec := { name := "tsoSame", fn := fun _ => fun
  | [d1, d2, d3] => { results := [.lit (.bool true)], args := [d1, d2, d3] }
  | _ => none }
def tsoSameRow : OpenClaim := { program := "ytaenjbhhpdmhgaa", sum := "d89dbc65c3656741769c884738fd834e951a8f05389a0e4dfaf19e77a29ec758", func := "tautochrone/tautochronelaw23.TsoSame", spec := "tsoSame", inPlace := ["sync/atomic.AddInt64", "sync/atomic.LoadInt64"], unfollowed := true, recurses := true, apart := false }
def TsoSameSaid : Prop := tsoSameRow.holds Try.pinned (OpenSpec.ofChange tsoSameSpec)

/-- ITS FALSE NEIGHBOUR: 'it returns false'. Refute it at one input. -/
def tsoSameWrong : ChangeSpec := { name := "tsoSame", fn := fun _ => fun
  | [d1, d2, d3] => { results := [.lit (.bool false)], args := [d1, d2, d3] }
  | _ => none }
def TsoSameWrongFalsely : Prop := tsoSameRow.holds Try.pinned (OpenSpec.ofChange tsoSameWrong)

/- THE SECOND FORM. 'bulk': how many values and letters a reading holds, each counted each time it is reached (what is shared counts as often as it is met; a slice's spare places count too). A statement '..UptoSaid' is the law's where the arguments, and the package variables that the reading takes, are together of bulk at most 1048576: NARROWER than '..Said'. Prove '..Said' where nothing that the law and all that it calls make is longer than what came in: it says more and counts as full. Else prove '..UptoSaid'. A law counts once. -/
mutual
def uptoBulk {H : Type} : DataW H → Nat
  | .lit (.string bytes) => bytes.length + 1
  | .lit _ => 1
  | .nil => 1
  | .ptr d => uptoBulk d + 1
  | .slice elems spare => uptoBulkAll elems + uptoBulkAll spare + 1
  | .agg parts => uptoBulkAll parts + 1
  | .iface _ d => uptoBulk d + 1
  | .map entries => uptoBulkEntries entries + 1
  | .held _ => 1
def uptoBulkAll {H : Type} : List (DataW H) → Nat
  | [] => 0
  | d :: r => uptoBulk d + uptoBulkAll r
def uptoBulkEntries {H : Type} : List (Lit × DataW H) → Nat
  | [] => 0
  | x :: r => uptoBulkEntry x + uptoBulkEntries r
def uptoBulkEntry {H : Type} : Lit × DataW H → Nat
  | (.string bytes, d) => bytes.length + uptoBulk d + 1
  | (_, d) => uptoBulk d + 1
 end
def uptoSmall : (H : Type) → List (DataW H) → Bool := fun _ ds => decide (uptoBulkAll ds ≤ 1048576)
def OpenSpec.upto (s : _root_.Go.ChangeSpec) : _root_.Go.OpenSpec := { _root_.Go.OpenSpec.ofChange s with cond := some uptoSmall }

/-- 'tautochronelaw23.TsoLocks', WHERE WHAT IT READS IS OF BULK AT MOST 1048576: true; the input reads as it did. -/
def tsoLocksUptoRow : OpenClaim := { program := "ytaenjbhhpdmhgaa", sum := "d89dbc65c3656741769c884738fd834e951a8f05389a0e4dfaf19e77a29ec758", func := "tautochrone/tautochronelaw23.TsoLocks", spec := "tsoLocks", inPlace := ["sync/atomic.AddInt64", "sync/atomic.LoadInt64"], unfollowed := true, recurses := true, apart := false, narrowed := true }
def TsoLocksUptoSaid : Prop := tsoLocksUptoRow.holds Try.pinned (OpenSpec.upto tsoLocksSpec)

/-- 'tautochronelaw23.TsoOwn', WHERE WHAT IT READS IS OF BULK AT MOST 1048576: true; the input reads as it did. -/
def tsoOwnUptoRow : OpenClaim := { program := "ytaenjbhhpdmhgaa", sum := "d89dbc65c3656741769c884738fd834e951a8f05389a0e4dfaf19e77a29ec758", func := "tautochrone/tautochronelaw23.TsoOwn", spec := "tsoOwn", inPlace := ["sync/atomic.AddInt64", "sync/atomic.LoadInt64"], unfollowed := true, recurses := true, apart := false, narrowed := true }
def TsoOwnUptoSaid : Prop := tsoOwnUptoRow.holds Try.pinned (OpenSpec.upto tsoOwnSpec)

/-- 'tautochronelaw23.TsoFence', WHERE WHAT IT READS IS OF BULK AT MOST 1048576: true; the input reads as it did. -/
def tsoFenceUptoRow : OpenClaim := { program := "ytaenjbhhpdmhgaa", sum := "d89dbc65c3656741769c884738fd834e951a8f05389a0e4dfaf19e77a29ec758", func := "tautochrone/tautochronelaw23.TsoFence", spec := "tsoFence", inPlace := ["sync/atomic.AddInt64", "sync/atomic.LoadInt64"], unfollowed := true, recurses := true, apart := false, narrowed := true }
def TsoFenceUptoSaid : Prop := tsoFenceUptoRow.holds Try.pinned (OpenSpec.upto tsoFenceSpec)

/-- 'tautochronelaw23.TsoNone', WHERE WHAT IT READS IS OF BULK AT MOST 1048576: true; the input reads as it did. -/
def tsoNoneUptoRow : OpenClaim := { program := "ytaenjbhhpdmhgaa", sum := "d89dbc65c3656741769c884738fd834e951a8f05389a0e4dfaf19e77a29ec758", func := "tautochrone/tautochronelaw23.TsoNone", spec := "tsoNone", inPlace := ["sync/atomic.AddInt64", "sync/atomic.LoadInt64"], unfollowed := true, recurses := true, apart := false, narrowed := true }
def TsoNoneUptoSaid : Prop := tsoNoneUptoRow.holds Try.pinned (OpenSpec.upto tsoNoneSpec)

/-- 'tautochronelaw23.TsoScript', WHERE WHAT IT READS IS OF BULK AT MOST 1048576: true; the input reads as it did. -/
def tsoScriptUptoRow : OpenClaim := { program := "ytaenjbhhpdmhgaa", sum := "d89dbc65c3656741769c884738fd834e951a8f05389a0e4dfaf19e77a29ec758", func := "tautochrone/tautochronelaw23.TsoScript", spec := "tsoScript", inPlace := ["sync/atomic.AddInt64", "sync/atomic.LoadInt64"], unfollowed := true, recurses := true, apart := false, narrowed := true }
def TsoScriptUptoSaid : Prop := tsoScriptUptoRow.holds Try.pinned (OpenSpec.upto tsoScriptSpec)

/-- 'tautochronelaw23.TsoSame', WHERE WHAT IT READS IS OF BULK AT MOST 1048576: true; the input reads as it did. -/
def tsoSameUptoRow : OpenClaim := { program := "ytaenjbhhpdmhgaa", sum := "d89dbc65c3656741769c884738fd834e951a8f05389a0e4dfaf19e77a29ec758", func := "tautochrone/tautochronelaw23.TsoSame", spec := "tsoSame", inPlace := ["sync/atomic.AddInt64", "sync/atomic.LoadInt64"], unfollowed := true, recurses := true, apart := false, narrowed := true }
def TsoSameUptoSaid : Prop := tsoSameUptoRow.holds Try.pinned (OpenSpec.upto tsoSameSpec)

end Rows
end Go.Proofs.Ytaenjbhhpdmhgaa
