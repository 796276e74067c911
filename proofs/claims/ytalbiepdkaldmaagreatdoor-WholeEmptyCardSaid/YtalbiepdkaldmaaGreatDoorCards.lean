/-
  DERIVED. GIVEN WITH THE SEED: THE CARDS: each row of YtalbiepdkaldmaaGreatDoorRows.lean that lists a variable, with what it lists TIED to the program's text (the seventh form; the later family's looks); each row that meets fmt, with fmt's text TOLD by the authors' own Lean function (tested against real Go, not proved from fmt's source: count such statements apart). THE CARD IS WHAT COUNTS. Prove the row's statement (the work); the ties are given (YtalbiepdkaldmaaGreatDoorTie.lean); close each card by the builder's one call (the guide's Derived/Test/ToyasCard.lean, 'card_holds'). Laid BY PROGRAM, IN A SANDBOX (cutbox-door.mjs). By AI agents, Wed Nov 11 2026. No macro, syntax, notation, axiom, sorry.
-/
import Derived.Test.YtalbiepdkaldmaaGreatDoorRows
import GoSem.ClaimSeven
namespace Go.Proofs.YtalbiepdkaldmaaGreatDoor
namespace Rows

/-- THE TIED CARD OF 'passepartoutlaw16.MessageReads'. -/
def messageReadsCard : Claim7 := { stood := { row := messageReadsRow, standIns := [], harness := (true, "4b32a5a4e44b45f94f14dcdced3c0effbe5cbc6e31a1c183494738779e417114"), looks := true }, kinds := [], alts := [], laidByText := true, laidKinds := [.data, .data, .data, .sentinel, .sentinel, .widerDeep, .widerDeep, .funcs, .data, .data], laidTests := true, laidLooks := .later }
def MessageReadsCardSaid : Prop := Claim7.holds Tryz.pinned (.plain (OpenSpec.ofChange messageReadsSpec)) messageReadsCard

/-- THE TIED CARD OF 'passepartoutlaw19.StreamPlaces'. -/
def streamPlacesCard : Claim7 := { stood := { row := streamPlacesRow, standIns := [], harness := (true, "4b32a5a4e44b45f94f14dcdced3c0effbe5cbc6e31a1c183494738779e417114"), looks := true }, kinds := [], alts := [], laidByText := true, laidKinds := [.data, .data, .data, .sentinel, .sentinel, .widerDeep, .widerDeep, .data, .funcs, .data, .data], laidTests := true, laidLooks := .later }
def StreamPlacesCardSaid : Prop := Claim7.holds Tryz.pinned (.plain (OpenSpec.ofChange streamPlacesSpec)) streamPlacesCard

/-- THE TIED CARD OF 'passepartoutlaw19.StreamData'. -/
def streamDataCard : Claim7 := { stood := { row := streamDataRow, standIns := [], harness := (true, "4b32a5a4e44b45f94f14dcdced3c0effbe5cbc6e31a1c183494738779e417114"), looks := true }, kinds := [], alts := [], laidByText := true, laidKinds := [.data, .data, .data, .sentinel, .sentinel, .widerDeep, .widerDeep, .data, .funcs, .data, .data], laidTests := true, laidLooks := .later }
def StreamDataCardSaid : Prop := Claim7.holds Tryz.pinned (.plain (OpenSpec.ofChange streamDataSpec)) streamDataCard

/-- THE TIED CARD OF 'passepartoutlaw19.StreamNone'. -/
def streamNoneCard : Claim7 := { stood := { row := streamNoneRow, standIns := [], harness := (true, "4b32a5a4e44b45f94f14dcdced3c0effbe5cbc6e31a1c183494738779e417114"), looks := true }, kinds := [], alts := [], laidByText := true, laidKinds := [.data, .data, .data, .sentinel, .sentinel, .widerDeep, .widerDeep, .data, .funcs, .data, .data], laidTests := true, laidLooks := .later }
def StreamNoneCardSaid : Prop := Claim7.holds Tryz.pinned (.plain (OpenSpec.ofChange streamNoneSpec)) streamNoneCard

/-- THE TIED CARD OF 'passepartoutlaw21.WholeEmpty'. -/
def wholeEmptyCard : Claim7 := { stood := { row := wholeEmptyRow, standIns := [], harness := (true, "4b32a5a4e44b45f94f14dcdced3c0effbe5cbc6e31a1c183494738779e417114"), looks := true }, kinds := [], alts := [], laidByText := true, laidKinds := [.data, .data, .data, .sentinel, .sentinel, .widerDeep, .widerDeep, .data, .funcs, .data, .data], laidTests := true, laidLooks := .later }
def WholeEmptyCardSaid : Prop := Claim7.holds Tryz.pinned (.plain (OpenSpec.ofChange wholeEmptySpec)) wholeEmptyCard

/-- THE SECOND FORM's CARD OF 'passepartoutlaw16.MessageReads'. -/
def messageReadsUptoCard : Claim7 := { stood := { row := messageReadsUptoRow, standIns := [], harness := (true, "4b32a5a4e44b45f94f14dcdced3c0effbe5cbc6e31a1c183494738779e417114"), looks := true }, kinds := [], alts := [], laidByText := true, laidKinds := [.data, .data, .data, .sentinel, .sentinel, .widerDeep, .widerDeep, .funcs, .data, .data], laidTests := true, laidLooks := .later }
def MessageReadsUptoCardSaid : Prop := Claim7.holds Tryz.pinned (.plain (OpenSpec.upto messageReadsSpec)) messageReadsUptoCard

/-- THE SECOND FORM's CARD OF 'passepartoutlaw19.StreamPlaces'. -/
def streamPlacesUptoCard : Claim7 := { stood := { row := streamPlacesUptoRow, standIns := [], harness := (true, "4b32a5a4e44b45f94f14dcdced3c0effbe5cbc6e31a1c183494738779e417114"), looks := true }, kinds := [], alts := [], laidByText := true, laidKinds := [.data, .data, .data, .sentinel, .sentinel, .widerDeep, .widerDeep, .data, .funcs, .data, .data], laidTests := true, laidLooks := .later }
def StreamPlacesUptoCardSaid : Prop := Claim7.holds Tryz.pinned (.plain (OpenSpec.upto streamPlacesSpec)) streamPlacesUptoCard

/-- THE SECOND FORM's CARD OF 'passepartoutlaw19.StreamData'. -/
def streamDataUptoCard : Claim7 := { stood := { row := streamDataUptoRow, standIns := [], harness := (true, "4b32a5a4e44b45f94f14dcdced3c0effbe5cbc6e31a1c183494738779e417114"), looks := true }, kinds := [], alts := [], laidByText := true, laidKinds := [.data, .data, .data, .sentinel, .sentinel, .widerDeep, .widerDeep, .data, .funcs, .data, .data], laidTests := true, laidLooks := .later }
def StreamDataUptoCardSaid : Prop := Claim7.holds Tryz.pinned (.plain (OpenSpec.upto streamDataSpec)) streamDataUptoCard

/-- THE SECOND FORM's CARD OF 'passepartoutlaw19.StreamNone'. -/
def streamNoneUptoCard : Claim7 := { stood := { row := streamNoneUptoRow, standIns := [], harness := (true, "4b32a5a4e44b45f94f14dcdced3c0effbe5cbc6e31a1c183494738779e417114"), looks := true }, kinds := [], alts := [], laidByText := true, laidKinds := [.data, .data, .data, .sentinel, .sentinel, .widerDeep, .widerDeep, .data, .funcs, .data, .data], laidTests := true, laidLooks := .later }
def StreamNoneUptoCardSaid : Prop := Claim7.holds Tryz.pinned (.plain (OpenSpec.upto streamNoneSpec)) streamNoneUptoCard

/-- THE SECOND FORM's CARD OF 'passepartoutlaw21.WholeEmpty'. -/
def wholeEmptyUptoCard : Claim7 := { stood := { row := wholeEmptyUptoRow, standIns := [], harness := (true, "4b32a5a4e44b45f94f14dcdced3c0effbe5cbc6e31a1c183494738779e417114"), looks := true }, kinds := [], alts := [], laidByText := true, laidKinds := [.data, .data, .data, .sentinel, .sentinel, .widerDeep, .widerDeep, .data, .funcs, .data, .data], laidTests := true, laidLooks := .later }
def WholeEmptyUptoCardSaid : Prop := Claim7.holds Tryz.pinned (.plain (OpenSpec.upto wholeEmptySpec)) wholeEmptyUptoCard
end Rows
end Go.Proofs.YtalbiepdkaldmaaGreatDoor
