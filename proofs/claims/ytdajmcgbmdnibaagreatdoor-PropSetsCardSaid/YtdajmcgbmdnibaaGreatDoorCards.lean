/-
  DERIVED. GIVEN WITH THE SEED: THE CARDS: each row of YtdajmcgbmdnibaaGreatDoorRows.lean that lists a variable, with what it lists TIED to the program's text (the seventh form; the later family's looks); each row that meets fmt, with fmt's text TOLD by the authors' own Lean function (tested against real Go, not proved from fmt's source: count such statements apart). THE CARD IS WHAT COUNTS. Prove the row's statement (the work); the ties are given (YtdajmcgbmdnibaaGreatDoorTie.lean); close each card by the builder's one call (the guide's Derived/Test/ToyasCard.lean, 'card_holds'). Laid BY PROGRAM, IN A SANDBOX (cutbox-door.mjs). By AI agents, Wed Nov 11 2026. No macro, syntax, notation, axiom, sorry.
-/
import Derived.Test.YtdajmcgbmdnibaaGreatDoorRows
import GoSem.ClaimSeven
namespace Go.Proofs.YtdajmcgbmdnibaaGreatDoor
namespace Rows

/-- THE TIED CARD OF 'trivetlaw18.SframeLines'. -/
def sframeLinesCard : Claim7 := { stood := { row := sframeLinesRow, standIns := [], harness := (true, "df30af3e057aca01772ac48572b8238da69fbbe77742df2a1c7b6722e9fd2b79"), looks := true }, kinds := [], alts := [], laidByText := true, laidKinds := [.data, .data, .data, .data, .sentinel, .sentinel, .pinned], laidTests := true, laidLooks := .later }
def SframeLinesCardSaid : Prop := Claim7.holds Tryz.pinned (.plain (OpenSpec.ofChange sframeLinesSpec)) sframeLinesCard

/-- THE TIED CARD OF 'trivetlaw07.PropOrders'. -/
def propOrdersCard : Claim7 := { stood := { row := propOrdersRow, standIns := [], harness := (true, "df30af3e057aca01772ac48572b8238da69fbbe77742df2a1c7b6722e9fd2b79"), looks := true }, kinds := [], alts := [], laidByText := true, laidKinds := [.data, .data, .data, .data, .data, .pinned, .pinned, .pinned], laidTests := true, laidLooks := .later }
def PropOrdersCardSaid : Prop := Claim7.holds Tryz.pinned (.plain (OpenSpec.ofChange propOrdersSpec)) propOrdersCard

/-- THE TIED CARD OF 'trivetlaw07.PropKeeps'. -/
def propKeepsCard : Claim7 := { stood := { row := propKeepsRow, standIns := [], harness := (true, "df30af3e057aca01772ac48572b8238da69fbbe77742df2a1c7b6722e9fd2b79"), looks := true }, kinds := [], alts := [], laidByText := true, laidKinds := [.data, .data, .data, .data, .data, .pinned, .pinned, .pinned], laidTests := true, laidLooks := .later }
def PropKeepsCardSaid : Prop := Claim7.holds Tryz.pinned (.plain (OpenSpec.ofChange propKeepsSpec)) propKeepsCard

/-- THE TIED CARD OF 'trivetlaw07.PropSets'. -/
def propSetsCard : Claim7 := { stood := { row := propSetsRow, standIns := [], harness := (true, "df30af3e057aca01772ac48572b8238da69fbbe77742df2a1c7b6722e9fd2b79"), looks := true }, kinds := [], alts := [], laidByText := true, laidKinds := [.data, .data, .data, .data, .data, .pinned, .pinned, .pinned], laidTests := true, laidLooks := .later }
def PropSetsCardSaid : Prop := Claim7.holds Tryz.pinned (.plain (OpenSpec.ofChange propSetsSpec)) propSetsCard

/-- THE SECOND FORM's CARD OF 'trivetlaw18.SframeLines'. -/
def sframeLinesUptoCard : Claim7 := { stood := { row := sframeLinesUptoRow, standIns := [], harness := (true, "df30af3e057aca01772ac48572b8238da69fbbe77742df2a1c7b6722e9fd2b79"), looks := true }, kinds := [], alts := [], laidByText := true, laidKinds := [.data, .data, .data, .data, .sentinel, .sentinel, .pinned], laidTests := true, laidLooks := .later }
def SframeLinesUptoCardSaid : Prop := Claim7.holds Tryz.pinned (.plain (OpenSpec.upto sframeLinesSpec)) sframeLinesUptoCard

/-- THE SECOND FORM's CARD OF 'trivetlaw07.PropOrders'. -/
def propOrdersUptoCard : Claim7 := { stood := { row := propOrdersUptoRow, standIns := [], harness := (true, "df30af3e057aca01772ac48572b8238da69fbbe77742df2a1c7b6722e9fd2b79"), looks := true }, kinds := [], alts := [], laidByText := true, laidKinds := [.data, .data, .data, .data, .data, .pinned, .pinned, .pinned], laidTests := true, laidLooks := .later }
def PropOrdersUptoCardSaid : Prop := Claim7.holds Tryz.pinned (.plain (OpenSpec.upto propOrdersSpec)) propOrdersUptoCard

/-- THE SECOND FORM's CARD OF 'trivetlaw07.PropKeeps'. -/
def propKeepsUptoCard : Claim7 := { stood := { row := propKeepsUptoRow, standIns := [], harness := (true, "df30af3e057aca01772ac48572b8238da69fbbe77742df2a1c7b6722e9fd2b79"), looks := true }, kinds := [], alts := [], laidByText := true, laidKinds := [.data, .data, .data, .data, .data, .pinned, .pinned, .pinned], laidTests := true, laidLooks := .later }
def PropKeepsUptoCardSaid : Prop := Claim7.holds Tryz.pinned (.plain (OpenSpec.upto propKeepsSpec)) propKeepsUptoCard

/-- THE SECOND FORM's CARD OF 'trivetlaw07.PropSets'. -/
def propSetsUptoCard : Claim7 := { stood := { row := propSetsUptoRow, standIns := [], harness := (true, "df30af3e057aca01772ac48572b8238da69fbbe77742df2a1c7b6722e9fd2b79"), looks := true }, kinds := [], alts := [], laidByText := true, laidKinds := [.data, .data, .data, .data, .data, .pinned, .pinned, .pinned], laidTests := true, laidLooks := .later }
def PropSetsUptoCardSaid : Prop := Claim7.holds Tryz.pinned (.plain (OpenSpec.upto propSetsSpec)) propSetsUptoCard
end Rows
end Go.Proofs.YtdajmcgbmdnibaaGreatDoor
