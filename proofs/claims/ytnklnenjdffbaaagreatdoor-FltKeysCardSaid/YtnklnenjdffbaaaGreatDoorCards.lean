/-
  DERIVED. GIVEN WITH THE SEED: THE CARDS: each row of YtnklnenjdffbaaaGreatDoorRows.lean that lists a variable, with what it lists TIED to the program's text (the seventh form; the later family's looks); each row that meets fmt, with fmt's text TOLD by the authors' own Lean function (tested against real Go, not proved from fmt's source: count such statements apart). THE CARD IS WHAT COUNTS. Prove the row's statement (the work); the ties are given (YtnklnenjdffbaaaGreatDoorTie.lean); close each card by the builder's one call (the guide's Derived/Test/ToyasCard.lean, 'card_holds'). Laid BY PROGRAM, IN A SANDBOX (cutbox-door.mjs). By AI agents, Wed Nov 11 2026. No macro, syntax, notation, axiom, sorry.
-/
import Derived.Test.YtnklnenjdffbaaaGreatDoorRows
import GoSem.ClaimSeven
namespace Go.Proofs.YtnklnenjdffbaaaGreatDoor
namespace Rows

/-- THE TIED CARD OF 'trivetlaw06.FltTexts'. -/
def fltTextsCard : Claim7 := { stood := { row := fltTextsRow, standIns := [], harness := (true, "7d762ae585494c9e6d89edd508a112003a33d7b6fb8d9837e60b061bc7b26946"), looks := true }, kinds := [], alts := [], laidByText := true, laidKinds := [.data, .data, .widerDeep, .widerDeep, .data, .data, .data, .data, .data, .sentinel, .sentinel, .pinned, .pinned], laidTests := true, laidLooks := .later }
def FltTextsCardSaid : Prop := Claim7.holds Tryz.pinned (.plain (OpenSpec.ofChange fltTextsSpec)) fltTextsCard

/-- THE TIED CARD OF 'trivetlaw06.FltNarrows'. -/
def fltNarrowsCard : Claim7 := { stood := { row := fltNarrowsRow, standIns := [], harness := (true, "7d762ae585494c9e6d89edd508a112003a33d7b6fb8d9837e60b061bc7b26946"), looks := true }, kinds := [], alts := [], laidByText := true, laidKinds := [.data, .data, .widerDeep, .widerDeep, .data, .data, .data, .data, .data, .sentinel, .sentinel, .pinned, .pinned], laidTests := true, laidLooks := .later }
def FltNarrowsCardSaid : Prop := Claim7.holds Tryz.pinned (.plain (OpenSpec.ofChange fltNarrowsSpec)) fltNarrowsCard

/-- THE TIED CARD OF 'trivetlaw06.FltBack'. -/
def fltBackCard : Claim7 := { stood := { row := fltBackRow, standIns := [], harness := (true, "7d762ae585494c9e6d89edd508a112003a33d7b6fb8d9837e60b061bc7b26946"), looks := true }, kinds := [], alts := [], laidByText := true, laidKinds := [.data, .data, .widerDeep, .widerDeep, .data, .data, .data, .data, .data, .sentinel, .sentinel, .pinned, .pinned], laidTests := true, laidLooks := .later }
def FltBackCardSaid : Prop := Claim7.holds Tryz.pinned (.plain (OpenSpec.ofChange fltBackSpec)) fltBackCard

/-- THE TIED CARD OF 'trivetlaw06.FltOrders'. -/
def fltOrdersCard : Claim7 := { stood := { row := fltOrdersRow, standIns := [], harness := (true, "7d762ae585494c9e6d89edd508a112003a33d7b6fb8d9837e60b061bc7b26946"), looks := true }, kinds := [], alts := [], laidByText := true, laidKinds := [.data, .data, .widerDeep, .widerDeep, .data, .data, .data, .data, .data, .sentinel, .sentinel, .pinned, .pinned], laidTests := true, laidLooks := .later }
def FltOrdersCardSaid : Prop := Claim7.holds Tryz.pinned (.plain (OpenSpec.ofChange fltOrdersSpec)) fltOrdersCard

/-- THE TIED CARD OF 'trivetlaw06.FltKeys'. -/
def fltKeysCard : Claim7 := { stood := { row := fltKeysRow, standIns := [], harness := (true, "7d762ae585494c9e6d89edd508a112003a33d7b6fb8d9837e60b061bc7b26946"), looks := true }, kinds := [], alts := [], laidByText := true, laidKinds := [.data, .data, .widerDeep, .widerDeep, .data, .data, .data, .data, .data, .sentinel, .sentinel, .pinned, .pinned], laidTests := true, laidLooks := .later }
def FltKeysCardSaid : Prop := Claim7.holds Tryz.pinned (.plain (OpenSpec.ofChange fltKeysSpec)) fltKeysCard

/-- THE SECOND FORM's CARD OF 'trivetlaw06.FltTexts'. -/
def fltTextsUptoCard : Claim7 := { stood := { row := fltTextsUptoRow, standIns := [], harness := (true, "7d762ae585494c9e6d89edd508a112003a33d7b6fb8d9837e60b061bc7b26946"), looks := true }, kinds := [], alts := [], laidByText := true, laidKinds := [.data, .data, .widerDeep, .widerDeep, .data, .data, .data, .data, .data, .sentinel, .sentinel, .pinned, .pinned], laidTests := true, laidLooks := .later }
def FltTextsUptoCardSaid : Prop := Claim7.holds Tryz.pinned (.plain (OpenSpec.upto fltTextsSpec)) fltTextsUptoCard

/-- THE SECOND FORM's CARD OF 'trivetlaw06.FltNarrows'. -/
def fltNarrowsUptoCard : Claim7 := { stood := { row := fltNarrowsUptoRow, standIns := [], harness := (true, "7d762ae585494c9e6d89edd508a112003a33d7b6fb8d9837e60b061bc7b26946"), looks := true }, kinds := [], alts := [], laidByText := true, laidKinds := [.data, .data, .widerDeep, .widerDeep, .data, .data, .data, .data, .data, .sentinel, .sentinel, .pinned, .pinned], laidTests := true, laidLooks := .later }
def FltNarrowsUptoCardSaid : Prop := Claim7.holds Tryz.pinned (.plain (OpenSpec.upto fltNarrowsSpec)) fltNarrowsUptoCard

/-- THE SECOND FORM's CARD OF 'trivetlaw06.FltBack'. -/
def fltBackUptoCard : Claim7 := { stood := { row := fltBackUptoRow, standIns := [], harness := (true, "7d762ae585494c9e6d89edd508a112003a33d7b6fb8d9837e60b061bc7b26946"), looks := true }, kinds := [], alts := [], laidByText := true, laidKinds := [.data, .data, .widerDeep, .widerDeep, .data, .data, .data, .data, .data, .sentinel, .sentinel, .pinned, .pinned], laidTests := true, laidLooks := .later }
def FltBackUptoCardSaid : Prop := Claim7.holds Tryz.pinned (.plain (OpenSpec.upto fltBackSpec)) fltBackUptoCard

/-- THE SECOND FORM's CARD OF 'trivetlaw06.FltOrders'. -/
def fltOrdersUptoCard : Claim7 := { stood := { row := fltOrdersUptoRow, standIns := [], harness := (true, "7d762ae585494c9e6d89edd508a112003a33d7b6fb8d9837e60b061bc7b26946"), looks := true }, kinds := [], alts := [], laidByText := true, laidKinds := [.data, .data, .widerDeep, .widerDeep, .data, .data, .data, .data, .data, .sentinel, .sentinel, .pinned, .pinned], laidTests := true, laidLooks := .later }
def FltOrdersUptoCardSaid : Prop := Claim7.holds Tryz.pinned (.plain (OpenSpec.upto fltOrdersSpec)) fltOrdersUptoCard

/-- THE SECOND FORM's CARD OF 'trivetlaw06.FltKeys'. -/
def fltKeysUptoCard : Claim7 := { stood := { row := fltKeysUptoRow, standIns := [], harness := (true, "7d762ae585494c9e6d89edd508a112003a33d7b6fb8d9837e60b061bc7b26946"), looks := true }, kinds := [], alts := [], laidByText := true, laidKinds := [.data, .data, .widerDeep, .widerDeep, .data, .data, .data, .data, .data, .sentinel, .sentinel, .pinned, .pinned], laidTests := true, laidLooks := .later }
def FltKeysUptoCardSaid : Prop := Claim7.holds Tryz.pinned (.plain (OpenSpec.upto fltKeysSpec)) fltKeysUptoCard
end Rows
end Go.Proofs.YtnklnenjdffbaaaGreatDoor
