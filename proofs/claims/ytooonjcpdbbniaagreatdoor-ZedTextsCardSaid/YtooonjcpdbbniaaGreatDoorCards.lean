/-
  DERIVED. GIVEN WITH THE SEED: THE CARDS: each row of YtooonjcpdbbniaaGreatDoorRows.lean that lists a variable, with what it lists TIED to the program's text (the seventh form; the later family's looks); each row that meets fmt, with fmt's text TOLD by the authors' own Lean function (tested against real Go, not proved from fmt's source: count such statements apart). THE CARD IS WHAT COUNTS. Prove the row's statement (the work); the ties are given (YtooonjcpdbbniaaGreatDoorTie.lean); close each card by the builder's one call (the guide's Derived/Test/ToyasCard.lean, 'card_holds'). Laid BY PROGRAM, IN A SANDBOX (cutbox-door.mjs). By AI agents, Wed Nov 11 2026. No macro, syntax, notation, axiom, sorry.
-/
import Derived.Test.YtooonjcpdbbniaaGreatDoorRows
import GoSem.ClaimSeven
namespace Go.Proofs.YtooonjcpdbbniaaGreatDoor
namespace Rows

/-- THE TIED CARD OF 'ratchetlaw04.ZedTells'. -/
def zedTellsCard : Claim7 := { stood := { row := zedTellsRow, standIns := [], harness := (true, "6f54b47bb86da43b3dc2baec8683334435f3c783d023423ecb18e28ac64d285c"), looks := true }, kinds := [], alts := [], laidByText := true, laidKinds := [.data, .data, .data, .sentinel, .sentinel], laidTests := true, laidLooks := .later }
def ZedTellsCardSaid : Prop := Claim7.holds Tryz.pinned (.plain (OpenSpec.ofChange zedTellsSpec)) zedTellsCard

/-- THE TIED CARD OF 'ratchetlaw04.ZedTexts'. -/
def zedTextsCard : Claim7 := { stood := { row := zedTextsRow, standIns := [], harness := (true, "6f54b47bb86da43b3dc2baec8683334435f3c783d023423ecb18e28ac64d285c"), looks := true }, kinds := [], alts := [], laidByText := true, laidKinds := [.data, .data, .data, .sentinel, .sentinel], laidTests := true, laidLooks := .later }
def ZedTextsCardSaid : Prop := Claim7.holds Tryz.pinned (.plain (OpenSpec.ofChange zedTextsSpec)) zedTextsCard

/-- THE SECOND FORM's CARD OF 'ratchetlaw04.ZedTells'. -/
def zedTellsUptoCard : Claim7 := { stood := { row := zedTellsUptoRow, standIns := [], harness := (true, "6f54b47bb86da43b3dc2baec8683334435f3c783d023423ecb18e28ac64d285c"), looks := true }, kinds := [], alts := [], laidByText := true, laidKinds := [.data, .data, .data, .sentinel, .sentinel], laidTests := true, laidLooks := .later }
def ZedTellsUptoCardSaid : Prop := Claim7.holds Tryz.pinned (.plain (OpenSpec.upto zedTellsSpec)) zedTellsUptoCard

/-- THE SECOND FORM's CARD OF 'ratchetlaw04.ZedTexts'. -/
def zedTextsUptoCard : Claim7 := { stood := { row := zedTextsUptoRow, standIns := [], harness := (true, "6f54b47bb86da43b3dc2baec8683334435f3c783d023423ecb18e28ac64d285c"), looks := true }, kinds := [], alts := [], laidByText := true, laidKinds := [.data, .data, .data, .sentinel, .sentinel], laidTests := true, laidLooks := .later }
def ZedTextsUptoCardSaid : Prop := Claim7.holds Tryz.pinned (.plain (OpenSpec.upto zedTextsSpec)) zedTextsUptoCard
end Rows
end Go.Proofs.YtooonjcpdbbniaaGreatDoor
