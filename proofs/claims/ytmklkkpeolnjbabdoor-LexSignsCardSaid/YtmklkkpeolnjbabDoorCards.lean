/-
  DERIVED. GIVEN WITH THE SEED: THE CARDS: each row of YtmklkkpeolnjbabDoorRows.lean that lists a variable, with what it lists TIED to the program's text (the seventh form; the later family's looks); each row that meets fmt, with fmt's text TOLD by the authors' own Lean function (tested against real Go, not proved from fmt's source: count such statements apart). THE CARD IS WHAT COUNTS. Prove the row's statement (the work); the ties are given (YtmklkkpeolnjbabDoorTie.lean); close each card by the builder's one call (the guide's Derived/Test/ToyasCard.lean, 'card_holds'). Laid BY PROGRAM, IN A SANDBOX (cutbox-door.mjs). By AI agents, Wed Nov 11 2026. No macro, syntax, notation, axiom, sorry.
-/
import Derived.Test.YtmklkkpeolnjbabDoorRows
import GoSem.ClaimSeven
namespace Go.Proofs.YtmklkkpeolnjbabDoor
namespace Rows

/-- THE TIED CARD OF 'tautochronelaw03.LexSigns'. -/
def lexSignsCard : Claim7 := { stood := { row := lexSignsRow, standIns := [], harness := (true, "c9015b33b6a6871a3de8a21264633e8933bb25841485174c97c1cb45d714b7e8"), looks := true }, kinds := [], alts := [], laidByText := true, laidKinds := [.handle], laidTests := true, laidLooks := .later }
def LexSignsCardSaid : Prop := Claim7.holds Tryd.pinned (.plain (OpenSpec.ofChange lexSignsSpec)) lexSignsCard

/-- THE SECOND FORM's CARD OF 'tautochronelaw03.LexSigns'. -/
def lexSignsUptoCard : Claim7 := { stood := { row := lexSignsUptoRow, standIns := [], harness := (true, "c9015b33b6a6871a3de8a21264633e8933bb25841485174c97c1cb45d714b7e8"), looks := true }, kinds := [], alts := [], laidByText := true, laidKinds := [.handle], laidTests := true, laidLooks := .later }
def LexSignsUptoCardSaid : Prop := Claim7.holds Tryd.pinned (.plain (OpenSpec.upto lexSignsSpec)) lexSignsUptoCard
end Rows
end Go.Proofs.YtmklkkpeolnjbabDoor
