/-
  DERIVED. GIVEN WITH THE SEED: THE CARDS: each row of YtnklnenjdffbaaaDoorRows.lean that lists a variable, with what it lists TIED to the program's text (the seventh form; the later family's looks); each row that meets fmt, with fmt's text TOLD by the authors' own Lean function (tested against real Go, not proved from fmt's source: count such statements apart). THE CARD IS WHAT COUNTS. Prove the row's statement (the work); the ties are given (YtnklnenjdffbaaaDoorTie.lean); close each card by the builder's one call (the guide's Derived/Test/ToyasCard.lean, 'card_holds'). Laid BY PROGRAM, IN A SANDBOX (cutbox-door.mjs). By AI agents, Wed Nov 11 2026. No macro, syntax, notation, axiom, sorry.
-/
import Derived.Test.YtnklnenjdffbaaaDoorRows
import GoSem.ClaimSeven
namespace Go.Proofs.YtnklnenjdffbaaaDoor
namespace Rows

/-- THE TIED CARD OF 'trivetlaw06.FltTells'. -/
def fltTellsCard : Claim7 := { stood := { row := fltTellsRow, standIns := [], harness := (true, "25cc32aa8cb32653a767b614242980471123c86456a6b7793bcab588b7056ecc"), looks := true }, kinds := [], alts := [], laidByText := true, laidKinds := [.data, .data, .widerDeep, .widerDeep, .data, .data, .data, .data, .data, .sentinel, .sentinel, .pinned, .pinned], laidTests := true, laidLooks := .later }
def FltTellsCardSaid : Prop := Claim7.holds Tryd.pinned (.plain (OpenSpec.ofChange fltTellsSpec)) fltTellsCard

/-- THE SECOND FORM's CARD OF 'trivetlaw06.FltTells'. -/
def fltTellsUptoCard : Claim7 := { stood := { row := fltTellsUptoRow, standIns := [], harness := (true, "25cc32aa8cb32653a767b614242980471123c86456a6b7793bcab588b7056ecc"), looks := true }, kinds := [], alts := [], laidByText := true, laidKinds := [.data, .data, .widerDeep, .widerDeep, .data, .data, .data, .data, .data, .sentinel, .sentinel, .pinned, .pinned], laidTests := true, laidLooks := .later }
def FltTellsUptoCardSaid : Prop := Claim7.holds Tryd.pinned (.plain (OpenSpec.upto fltTellsSpec)) fltTellsUptoCard
end Rows
end Go.Proofs.YtnklnenjdffbaaaDoor
