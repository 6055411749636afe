/-
  DERIVED. GIVEN WITH THE SEED: THE CARDS: each row of YtchgmfdojhbgaaaDoorRows.lean that lists a variable, with what it lists TIED to the program's text (the seventh form; the later family's looks); each row that meets fmt, with fmt's text TOLD by the authors' own Lean function (tested against real Go, not proved from fmt's source: count such statements apart). THE CARD IS WHAT COUNTS. Prove the row's statement (the work); the ties are given (YtchgmfdojhbgaaaDoorTie.lean); close each card by the builder's one call (the guide's Derived/Test/ToyasCard.lean, 'card_holds'). Laid BY PROGRAM, IN A SANDBOX (cutbox-door.mjs). By AI agents, Wed Nov 11 2026. No macro, syntax, notation, axiom, sorry.
-/
import Derived.Test.YtchgmfdojhbgaaaDoorRows
import GoSem.ClaimSeven
namespace Go.Proofs.YtchgmfdojhbgaaaDoor
namespace Rows

/-- THE TIED CARD OF 'tautochronelaw06.ScopeOf'. -/
def scopeOfCard : Claim7 := { stood := { row := scopeOfRow, standIns := [], harness := (true, "a09460558a7afc0e8e6cb5c66c28dbd374ec905414f891b40c8016dc055d9cc1"), looks := true }, kinds := [], alts := [], laidByText := true, laidKinds := [.handle], laidTests := true, laidLooks := .later }
def ScopeOfCardSaid : Prop := Claim7.holds Tryd.pinned (.plain (OpenSpec.ofChange scopeOfSpec)) scopeOfCard

/-- THE SECOND FORM's CARD OF 'tautochronelaw06.ScopeOf'. -/
def scopeOfUptoCard : Claim7 := { stood := { row := scopeOfUptoRow, standIns := [], harness := (true, "a09460558a7afc0e8e6cb5c66c28dbd374ec905414f891b40c8016dc055d9cc1"), looks := true }, kinds := [], alts := [], laidByText := true, laidKinds := [.handle], laidTests := true, laidLooks := .later }
def ScopeOfUptoCardSaid : Prop := Claim7.holds Tryd.pinned (.plain (OpenSpec.upto scopeOfSpec)) scopeOfUptoCard
end Rows
end Go.Proofs.YtchgmfdojhbgaaaDoor
