/-
  DERIVED. GIVEN WITH THE SEED: THE CARDS: each row of YtooonjcpdbbniaaDoorRows.lean that lists a variable, with what it lists TIED to the program's text (the seventh form; the later family's looks); each row that meets fmt, with fmt's text TOLD by the authors' own Lean function (tested against real Go, not proved from fmt's source: count such statements apart). THE CARD IS WHAT COUNTS. Prove the row's statement (the work); the ties are given (YtooonjcpdbbniaaDoorTie.lean); close each card by the builder's one call (the guide's Derived/Test/ToyasCard.lean, 'card_holds'). Laid BY PROGRAM, IN A SANDBOX (cutbox-door.mjs). By AI agents, Wed Nov 11 2026. No macro, syntax, notation, axiom, sorry.
-/
import Derived.Test.YtooonjcpdbbniaaDoorRows
import GoSem.ClaimSeven
namespace Go.Proofs.YtooonjcpdbbniaaDoor
namespace Rows

/-- THE TIED CARD OF 'ratchetlaw04.ZedRing'. -/
def zedRingCard : Claim7 := { stood := { row := zedRingRow, standIns := [], harness := (true, "dae5e0a32f029b8c8a415c29b30f8009ce2f3215aa2c0ae62b66c6fb512d7010"), looks := true }, kinds := [], alts := [], laidByText := true, laidKinds := [.data, .data, .data, .sentinel, .sentinel], laidTests := true, laidLooks := .later }
def ZedRingCardSaid : Prop := Claim7.holds Tryd.pinned (.plain (OpenSpec.ofChange zedRingSpec)) zedRingCard

/-- THE TIED CARD OF 'ratchetlaw04.ZedBack'. -/
def zedBackCard : Claim7 := { stood := { row := zedBackRow, standIns := [], harness := (true, "dae5e0a32f029b8c8a415c29b30f8009ce2f3215aa2c0ae62b66c6fb512d7010"), looks := true }, kinds := [], alts := [], laidByText := true, laidKinds := [.data, .data, .data, .sentinel, .sentinel], laidTests := true, laidLooks := .later }
def ZedBackCardSaid : Prop := Claim7.holds Tryd.pinned (.plain (OpenSpec.ofChange zedBackSpec)) zedBackCard

/-- THE TIED CARD OF 'ratchetlaw04.ZedOrder'. -/
def zedOrderCard : Claim7 := { stood := { row := zedOrderRow, standIns := [], harness := (true, "dae5e0a32f029b8c8a415c29b30f8009ce2f3215aa2c0ae62b66c6fb512d7010"), looks := true }, kinds := [], alts := [], laidByText := true, laidKinds := [.data, .data, .data, .sentinel, .sentinel], laidTests := true, laidLooks := .later }
def ZedOrderCardSaid : Prop := Claim7.holds Tryd.pinned (.plain (OpenSpec.ofChange zedOrderSpec)) zedOrderCard

/-- THE TIED CARD OF 'ratchetlaw04.ZedInts'. -/
def zedIntsCard : Claim7 := { stood := { row := zedIntsRow, standIns := [], harness := (true, "dae5e0a32f029b8c8a415c29b30f8009ce2f3215aa2c0ae62b66c6fb512d7010"), looks := true }, kinds := [], alts := [], laidByText := true, laidKinds := [.data, .data, .data, .sentinel, .sentinel], laidTests := true, laidLooks := .later }
def ZedIntsCardSaid : Prop := Claim7.holds Tryd.pinned (.plain (OpenSpec.ofChange zedIntsSpec)) zedIntsCard

/-- THE SECOND FORM's CARD OF 'ratchetlaw04.ZedRing'. -/
def zedRingUptoCard : Claim7 := { stood := { row := zedRingUptoRow, standIns := [], harness := (true, "dae5e0a32f029b8c8a415c29b30f8009ce2f3215aa2c0ae62b66c6fb512d7010"), looks := true }, kinds := [], alts := [], laidByText := true, laidKinds := [.data, .data, .data, .sentinel, .sentinel], laidTests := true, laidLooks := .later }
def ZedRingUptoCardSaid : Prop := Claim7.holds Tryd.pinned (.plain (OpenSpec.upto zedRingSpec)) zedRingUptoCard

/-- THE SECOND FORM's CARD OF 'ratchetlaw04.ZedBack'. -/
def zedBackUptoCard : Claim7 := { stood := { row := zedBackUptoRow, standIns := [], harness := (true, "dae5e0a32f029b8c8a415c29b30f8009ce2f3215aa2c0ae62b66c6fb512d7010"), looks := true }, kinds := [], alts := [], laidByText := true, laidKinds := [.data, .data, .data, .sentinel, .sentinel], laidTests := true, laidLooks := .later }
def ZedBackUptoCardSaid : Prop := Claim7.holds Tryd.pinned (.plain (OpenSpec.upto zedBackSpec)) zedBackUptoCard

/-- THE SECOND FORM's CARD OF 'ratchetlaw04.ZedOrder'. -/
def zedOrderUptoCard : Claim7 := { stood := { row := zedOrderUptoRow, standIns := [], harness := (true, "dae5e0a32f029b8c8a415c29b30f8009ce2f3215aa2c0ae62b66c6fb512d7010"), looks := true }, kinds := [], alts := [], laidByText := true, laidKinds := [.data, .data, .data, .sentinel, .sentinel], laidTests := true, laidLooks := .later }
def ZedOrderUptoCardSaid : Prop := Claim7.holds Tryd.pinned (.plain (OpenSpec.upto zedOrderSpec)) zedOrderUptoCard

/-- THE SECOND FORM's CARD OF 'ratchetlaw04.ZedInts'. -/
def zedIntsUptoCard : Claim7 := { stood := { row := zedIntsUptoRow, standIns := [], harness := (true, "dae5e0a32f029b8c8a415c29b30f8009ce2f3215aa2c0ae62b66c6fb512d7010"), looks := true }, kinds := [], alts := [], laidByText := true, laidKinds := [.data, .data, .data, .sentinel, .sentinel], laidTests := true, laidLooks := .later }
def ZedIntsUptoCardSaid : Prop := Claim7.holds Tryd.pinned (.plain (OpenSpec.upto zedIntsSpec)) zedIntsUptoCard
end Rows
end Go.Proofs.YtooonjcpdbbniaaDoor
