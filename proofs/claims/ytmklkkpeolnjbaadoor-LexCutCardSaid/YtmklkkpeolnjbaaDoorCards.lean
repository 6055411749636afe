/-
  DERIVED. GIVEN WITH THE SEED: THE CARDS: each row of YtmklkkpeolnjbaaDoorRows.lean that lists a variable, with what it lists TIED to the program's text (the seventh form; the later family's looks); each row that meets fmt, with fmt's text TOLD by the authors' own Lean function (tested against real Go, not proved from fmt's source: count such statements apart). THE CARD IS WHAT COUNTS. Prove the row's statement (the work); the ties are given (YtmklkkpeolnjbaaDoorTie.lean); close each card by the builder's one call (the guide's Derived/Test/ToyasCard.lean, 'card_holds'). Laid BY PROGRAM, IN A SANDBOX (cutbox-door.mjs). By AI agents, Wed Nov 11 2026. No macro, syntax, notation, axiom, sorry.
-/
import Derived.Test.YtmklkkpeolnjbaaDoorRows
import GoSem.ClaimSeven
namespace Go.Proofs.YtmklkkpeolnjbaaDoor
namespace Rows

/-- THE TIED CARD OF 'tautochronelaw03.LexCut'. -/
def lexCutCard : Claim7 := { stood := { row := lexCutRow, standIns := [], harness := (true, "c3c6e6c0d1f4c10abb38df30c27976efa419b2941917c6a1633470a7532cb448"), looks := true }, kinds := [], alts := [], laidByText := true, laidKinds := [.handle], laidTests := true, laidLooks := .later }
def LexCutCardSaid : Prop := Claim7.holds Tryd.pinned (.plain (OpenSpec.ofChange lexCutSpec)) lexCutCard

/-- THE TIED CARD OF 'tautochronelaw03.LexAgain'. -/
def lexAgainCard : Claim7 := { stood := { row := lexAgainRow, standIns := [], harness := (true, "c3c6e6c0d1f4c10abb38df30c27976efa419b2941917c6a1633470a7532cb448"), looks := true }, kinds := [], alts := [], laidByText := true, laidKinds := [.handle], laidTests := true, laidLooks := .later }
def LexAgainCardSaid : Prop := Claim7.holds Tryd.pinned (.plain (OpenSpec.ofChange lexAgainSpec)) lexAgainCard

/-- THE TIED CARD OF 'tautochronelaw03.LexKeys'. -/
def lexKeysCard : Claim7 := { stood := { row := lexKeysRow, standIns := [], harness := (true, "c3c6e6c0d1f4c10abb38df30c27976efa419b2941917c6a1633470a7532cb448"), looks := true }, kinds := [], alts := [], laidByText := true, laidKinds := [.handle], laidTests := true, laidLooks := .later }
def LexKeysCardSaid : Prop := Claim7.holds Tryd.pinned (.plain (OpenSpec.ofChange lexKeysSpec)) lexKeysCard

/-- THE TIED CARD OF 'tautochronelaw03.LexLong'. -/
def lexLongCard : Claim7 := { stood := { row := lexLongRow, standIns := [], harness := (true, "c3c6e6c0d1f4c10abb38df30c27976efa419b2941917c6a1633470a7532cb448"), looks := true }, kinds := [], alts := [], laidByText := true, laidKinds := [.handle], laidTests := true, laidLooks := .later }
def LexLongCardSaid : Prop := Claim7.holds Tryd.pinned (.plain (OpenSpec.ofChange lexLongSpec)) lexLongCard

/-- THE TIED CARD OF 'tautochronelaw03.LexNumbers'. -/
def lexNumbersCard : Claim7 := { stood := { row := lexNumbersRow, standIns := [], harness := (true, "c3c6e6c0d1f4c10abb38df30c27976efa419b2941917c6a1633470a7532cb448"), looks := true }, kinds := [], alts := [], laidByText := true, laidKinds := [.handle], laidTests := true, laidLooks := .later }
def LexNumbersCardSaid : Prop := Claim7.holds Tryd.pinned (.plain (OpenSpec.ofChange lexNumbersSpec)) lexNumbersCard

/-- THE TIED CARD OF 'tautochronelaw03.LexPlaces'. -/
def lexPlacesCard : Claim7 := { stood := { row := lexPlacesRow, standIns := [], harness := (true, "c3c6e6c0d1f4c10abb38df30c27976efa419b2941917c6a1633470a7532cb448"), looks := true }, kinds := [], alts := [], laidByText := true, laidKinds := [.handle], laidTests := true, laidLooks := .later }
def LexPlacesCardSaid : Prop := Claim7.holds Tryd.pinned (.plain (OpenSpec.ofChange lexPlacesSpec)) lexPlacesCard

/-- THE SECOND FORM's CARD OF 'tautochronelaw03.LexCut'. -/
def lexCutUptoCard : Claim7 := { stood := { row := lexCutUptoRow, standIns := [], harness := (true, "c3c6e6c0d1f4c10abb38df30c27976efa419b2941917c6a1633470a7532cb448"), looks := true }, kinds := [], alts := [], laidByText := true, laidKinds := [.handle], laidTests := true, laidLooks := .later }
def LexCutUptoCardSaid : Prop := Claim7.holds Tryd.pinned (.plain (OpenSpec.upto lexCutSpec)) lexCutUptoCard

/-- THE SECOND FORM's CARD OF 'tautochronelaw03.LexAgain'. -/
def lexAgainUptoCard : Claim7 := { stood := { row := lexAgainUptoRow, standIns := [], harness := (true, "c3c6e6c0d1f4c10abb38df30c27976efa419b2941917c6a1633470a7532cb448"), looks := true }, kinds := [], alts := [], laidByText := true, laidKinds := [.handle], laidTests := true, laidLooks := .later }
def LexAgainUptoCardSaid : Prop := Claim7.holds Tryd.pinned (.plain (OpenSpec.upto lexAgainSpec)) lexAgainUptoCard

/-- THE SECOND FORM's CARD OF 'tautochronelaw03.LexKeys'. -/
def lexKeysUptoCard : Claim7 := { stood := { row := lexKeysUptoRow, standIns := [], harness := (true, "c3c6e6c0d1f4c10abb38df30c27976efa419b2941917c6a1633470a7532cb448"), looks := true }, kinds := [], alts := [], laidByText := true, laidKinds := [.handle], laidTests := true, laidLooks := .later }
def LexKeysUptoCardSaid : Prop := Claim7.holds Tryd.pinned (.plain (OpenSpec.upto lexKeysSpec)) lexKeysUptoCard

/-- THE SECOND FORM's CARD OF 'tautochronelaw03.LexLong'. -/
def lexLongUptoCard : Claim7 := { stood := { row := lexLongUptoRow, standIns := [], harness := (true, "c3c6e6c0d1f4c10abb38df30c27976efa419b2941917c6a1633470a7532cb448"), looks := true }, kinds := [], alts := [], laidByText := true, laidKinds := [.handle], laidTests := true, laidLooks := .later }
def LexLongUptoCardSaid : Prop := Claim7.holds Tryd.pinned (.plain (OpenSpec.upto lexLongSpec)) lexLongUptoCard

/-- THE SECOND FORM's CARD OF 'tautochronelaw03.LexNumbers'. -/
def lexNumbersUptoCard : Claim7 := { stood := { row := lexNumbersUptoRow, standIns := [], harness := (true, "c3c6e6c0d1f4c10abb38df30c27976efa419b2941917c6a1633470a7532cb448"), looks := true }, kinds := [], alts := [], laidByText := true, laidKinds := [.handle], laidTests := true, laidLooks := .later }
def LexNumbersUptoCardSaid : Prop := Claim7.holds Tryd.pinned (.plain (OpenSpec.upto lexNumbersSpec)) lexNumbersUptoCard

/-- THE SECOND FORM's CARD OF 'tautochronelaw03.LexPlaces'. -/
def lexPlacesUptoCard : Claim7 := { stood := { row := lexPlacesUptoRow, standIns := [], harness := (true, "c3c6e6c0d1f4c10abb38df30c27976efa419b2941917c6a1633470a7532cb448"), looks := true }, kinds := [], alts := [], laidByText := true, laidKinds := [.handle], laidTests := true, laidLooks := .later }
def LexPlacesUptoCardSaid : Prop := Claim7.holds Tryd.pinned (.plain (OpenSpec.upto lexPlacesSpec)) lexPlacesUptoCard
end Rows
end Go.Proofs.YtmklkkpeolnjbaaDoor
