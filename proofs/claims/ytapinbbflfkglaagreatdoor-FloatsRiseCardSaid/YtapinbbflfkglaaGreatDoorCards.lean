/-
  DERIVED. GIVEN WITH THE SEED: THE CARDS: each row of YtapinbbflfkglaaGreatDoorRows.lean that lists a variable, with what it lists TIED to the program's text (the seventh form; the later family's looks); each row that meets fmt, with fmt's text TOLD by the authors' own Lean function (tested against real Go, not proved from fmt's source: count such statements apart). THE CARD IS WHAT COUNTS. Prove the row's statement (the work); the ties are given (YtapinbbflfkglaaGreatDoorTie.lean); close each card by the builder's one call (the guide's Derived/Test/ToyasCard.lean, 'card_holds'). Laid BY PROGRAM, IN A SANDBOX (cutbox-door.mjs). By AI agents, Wed Nov 11 2026. No macro, syntax, notation, axiom, sorry.
-/
import Derived.Test.YtapinbbflfkglaaGreatDoorRows
import GoSem.ClaimSeven
namespace Go.Proofs.YtapinbbflfkglaaGreatDoor
namespace Rows

/-- THE TIED CARD OF 'rhizomelaw02.FloatsKinds'. -/
def floatsKindsCard : Claim7 := { stood := { row := floatsKindsRow, standIns := [], harness := (true, "c400378ab0e81c99644d9a5ea6e973df357fed609d7405c1b5c78b25f4038438"), looks := true }, kinds := [], alts := [], laidByText := true, laidKinds := [.data, .data, .widerDeep, .widerDeep, .data, .data, .data, .data, .data, .data, .sentinel, .sentinel, .pinned, .pinned, .pinned], laidTests := true, laidLooks := .later }
def FloatsKindsCardSaid : Prop := Claim7.holds Tryz.pinned (.plain (OpenSpec.ofChange floatsKindsSpec)) floatsKindsCard

/-- THE TIED CARD OF 'rhizomelaw02.FloatsCmps'. -/
def floatsCmpsCard : Claim7 := { stood := { row := floatsCmpsRow, standIns := [], harness := (true, "c400378ab0e81c99644d9a5ea6e973df357fed609d7405c1b5c78b25f4038438"), looks := true }, kinds := [], alts := [], laidByText := true, laidKinds := [.data, .data, .widerDeep, .widerDeep, .data, .data, .data, .data, .data, .data, .sentinel, .sentinel, .pinned, .pinned, .pinned], laidTests := true, laidLooks := .later }
def FloatsCmpsCardSaid : Prop := Claim7.holds Tryz.pinned (.plain (OpenSpec.ofChange floatsCmpsSpec)) floatsCmpsCard

/-- THE TIED CARD OF 'rhizomelaw02.FloatsParses'. -/
def floatsParsesCard : Claim7 := { stood := { row := floatsParsesRow, standIns := [], harness := (true, "c400378ab0e81c99644d9a5ea6e973df357fed609d7405c1b5c78b25f4038438"), looks := true }, kinds := [], alts := [], laidByText := true, laidKinds := [.data, .data, .widerDeep, .widerDeep, .data, .data, .data, .data, .data, .data, .sentinel, .sentinel, .pinned, .pinned, .pinned], laidTests := true, laidLooks := .later }
def FloatsParsesCardSaid : Prop := Claim7.holds Tryz.pinned (.plain (OpenSpec.ofChange floatsParsesSpec)) floatsParsesCard

/-- THE TIED CARD OF 'rhizomelaw02.FloatsTells'. -/
def floatsTellsCard : Claim7 := { stood := { row := floatsTellsRow, standIns := [], harness := (true, "c400378ab0e81c99644d9a5ea6e973df357fed609d7405c1b5c78b25f4038438"), looks := true }, kinds := [], alts := [], laidByText := true, laidKinds := [.data, .data, .widerDeep, .widerDeep, .data, .data, .data, .data, .data, .data, .sentinel, .sentinel, .pinned, .pinned, .pinned], laidTests := true, laidLooks := .later }
def FloatsTellsCardSaid : Prop := Claim7.holds Tryz.pinned (.plain (OpenSpec.ofChange floatsTellsSpec)) floatsTellsCard

/-- THE TIED CARD OF 'rhizomelaw02.FloatsBack'. -/
def floatsBackCard : Claim7 := { stood := { row := floatsBackRow, standIns := [], harness := (true, "c400378ab0e81c99644d9a5ea6e973df357fed609d7405c1b5c78b25f4038438"), looks := true }, kinds := [], alts := [], laidByText := true, laidKinds := [.data, .data, .widerDeep, .widerDeep, .data, .data, .data, .data, .data, .data, .sentinel, .sentinel, .pinned, .pinned, .pinned], laidTests := true, laidLooks := .later }
def FloatsBackCardSaid : Prop := Claim7.holds Tryz.pinned (.plain (OpenSpec.ofChange floatsBackSpec)) floatsBackCard

/-- THE TIED CARD OF 'rhizomelaw02.FloatsKeys'. -/
def floatsKeysCard : Claim7 := { stood := { row := floatsKeysRow, standIns := [], harness := (true, "c400378ab0e81c99644d9a5ea6e973df357fed609d7405c1b5c78b25f4038438"), looks := true }, kinds := [], alts := [], laidByText := true, laidKinds := [.data, .data, .widerDeep, .widerDeep, .data, .data, .data, .data, .data, .data, .sentinel, .sentinel, .pinned, .pinned, .pinned], laidTests := true, laidLooks := .later }
def FloatsKeysCardSaid : Prop := Claim7.holds Tryz.pinned (.plain (OpenSpec.ofChange floatsKeysSpec)) floatsKeysCard

/-- THE TIED CARD OF 'rhizomelaw02.FloatsPlaces'. -/
def floatsPlacesCard : Claim7 := { stood := { row := floatsPlacesRow, standIns := [], harness := (true, "c400378ab0e81c99644d9a5ea6e973df357fed609d7405c1b5c78b25f4038438"), looks := true }, kinds := [], alts := [], laidByText := true, laidKinds := [.data, .data, .widerDeep, .widerDeep, .data, .data, .data, .data, .data, .data, .sentinel, .sentinel, .pinned, .pinned, .pinned], laidTests := true, laidLooks := .later }
def FloatsPlacesCardSaid : Prop := Claim7.holds Tryz.pinned (.plain (OpenSpec.ofChange floatsPlacesSpec)) floatsPlacesCard

/-- THE TIED CARD OF 'rhizomelaw02.FloatsOfs'. -/
def floatsOfsCard : Claim7 := { stood := { row := floatsOfsRow, standIns := [], harness := (true, "c400378ab0e81c99644d9a5ea6e973df357fed609d7405c1b5c78b25f4038438"), looks := true }, kinds := [], alts := [], laidByText := true, laidKinds := [.data, .data, .widerDeep, .widerDeep, .data, .data, .data, .data, .data, .data, .sentinel, .sentinel, .pinned, .pinned, .pinned], laidTests := true, laidLooks := .later }
def FloatsOfsCardSaid : Prop := Claim7.holds Tryz.pinned (.plain (OpenSpec.ofChange floatsOfsSpec)) floatsOfsCard

/-- THE TIED CARD OF 'rhizomelaw02.FloatsRise'. -/
def floatsRiseCard : Claim7 := { stood := { row := floatsRiseRow, standIns := [], harness := (true, "c400378ab0e81c99644d9a5ea6e973df357fed609d7405c1b5c78b25f4038438"), looks := true }, kinds := [], alts := [], laidByText := true, laidKinds := [.data, .data, .widerDeep, .widerDeep, .data, .data, .data, .data, .data, .data, .sentinel, .sentinel, .pinned, .pinned, .pinned], laidTests := true, laidLooks := .later }
def FloatsRiseCardSaid : Prop := Claim7.holds Tryz.pinned (.plain (OpenSpec.ofChange floatsRiseSpec)) floatsRiseCard

/-- THE TIED CARD OF 'rhizomelaw02.FloatsShort'. -/
def floatsShortCard : Claim7 := { stood := { row := floatsShortRow, standIns := [], harness := (true, "c400378ab0e81c99644d9a5ea6e973df357fed609d7405c1b5c78b25f4038438"), looks := true }, kinds := [], alts := [], laidByText := true, laidKinds := [.data, .data, .widerDeep, .widerDeep, .data, .data, .data, .data, .data, .data, .sentinel, .sentinel, .pinned, .pinned, .pinned], laidTests := true, laidLooks := .later }
def FloatsShortCardSaid : Prop := Claim7.holds Tryz.pinned (.plain (OpenSpec.ofChange floatsShortSpec)) floatsShortCard

/-- THE TIED CARD OF 'rhizomelaw02.FloatsNext'. -/
def floatsNextCard : Claim7 := { stood := { row := floatsNextRow, standIns := [], harness := (true, "c400378ab0e81c99644d9a5ea6e973df357fed609d7405c1b5c78b25f4038438"), looks := true }, kinds := [], alts := [], laidByText := true, laidKinds := [.data, .data, .widerDeep, .widerDeep, .data, .data, .data, .data, .data, .data, .sentinel, .sentinel, .pinned, .pinned, .pinned], laidTests := true, laidLooks := .later }
def FloatsNextCardSaid : Prop := Claim7.holds Tryz.pinned (.plain (OpenSpec.ofChange floatsNextSpec)) floatsNextCard

/-- THE SECOND FORM's CARD OF 'rhizomelaw02.FloatsKinds'. -/
def floatsKindsUptoCard : Claim7 := { stood := { row := floatsKindsUptoRow, standIns := [], harness := (true, "c400378ab0e81c99644d9a5ea6e973df357fed609d7405c1b5c78b25f4038438"), looks := true }, kinds := [], alts := [], laidByText := true, laidKinds := [.data, .data, .widerDeep, .widerDeep, .data, .data, .data, .data, .data, .data, .sentinel, .sentinel, .pinned, .pinned, .pinned], laidTests := true, laidLooks := .later }
def FloatsKindsUptoCardSaid : Prop := Claim7.holds Tryz.pinned (.plain (OpenSpec.upto floatsKindsSpec)) floatsKindsUptoCard

/-- THE SECOND FORM's CARD OF 'rhizomelaw02.FloatsCmps'. -/
def floatsCmpsUptoCard : Claim7 := { stood := { row := floatsCmpsUptoRow, standIns := [], harness := (true, "c400378ab0e81c99644d9a5ea6e973df357fed609d7405c1b5c78b25f4038438"), looks := true }, kinds := [], alts := [], laidByText := true, laidKinds := [.data, .data, .widerDeep, .widerDeep, .data, .data, .data, .data, .data, .data, .sentinel, .sentinel, .pinned, .pinned, .pinned], laidTests := true, laidLooks := .later }
def FloatsCmpsUptoCardSaid : Prop := Claim7.holds Tryz.pinned (.plain (OpenSpec.upto floatsCmpsSpec)) floatsCmpsUptoCard

/-- THE SECOND FORM's CARD OF 'rhizomelaw02.FloatsParses'. -/
def floatsParsesUptoCard : Claim7 := { stood := { row := floatsParsesUptoRow, standIns := [], harness := (true, "c400378ab0e81c99644d9a5ea6e973df357fed609d7405c1b5c78b25f4038438"), looks := true }, kinds := [], alts := [], laidByText := true, laidKinds := [.data, .data, .widerDeep, .widerDeep, .data, .data, .data, .data, .data, .data, .sentinel, .sentinel, .pinned, .pinned, .pinned], laidTests := true, laidLooks := .later }
def FloatsParsesUptoCardSaid : Prop := Claim7.holds Tryz.pinned (.plain (OpenSpec.upto floatsParsesSpec)) floatsParsesUptoCard

/-- THE SECOND FORM's CARD OF 'rhizomelaw02.FloatsTells'. -/
def floatsTellsUptoCard : Claim7 := { stood := { row := floatsTellsUptoRow, standIns := [], harness := (true, "c400378ab0e81c99644d9a5ea6e973df357fed609d7405c1b5c78b25f4038438"), looks := true }, kinds := [], alts := [], laidByText := true, laidKinds := [.data, .data, .widerDeep, .widerDeep, .data, .data, .data, .data, .data, .data, .sentinel, .sentinel, .pinned, .pinned, .pinned], laidTests := true, laidLooks := .later }
def FloatsTellsUptoCardSaid : Prop := Claim7.holds Tryz.pinned (.plain (OpenSpec.upto floatsTellsSpec)) floatsTellsUptoCard

/-- THE SECOND FORM's CARD OF 'rhizomelaw02.FloatsBack'. -/
def floatsBackUptoCard : Claim7 := { stood := { row := floatsBackUptoRow, standIns := [], harness := (true, "c400378ab0e81c99644d9a5ea6e973df357fed609d7405c1b5c78b25f4038438"), looks := true }, kinds := [], alts := [], laidByText := true, laidKinds := [.data, .data, .widerDeep, .widerDeep, .data, .data, .data, .data, .data, .data, .sentinel, .sentinel, .pinned, .pinned, .pinned], laidTests := true, laidLooks := .later }
def FloatsBackUptoCardSaid : Prop := Claim7.holds Tryz.pinned (.plain (OpenSpec.upto floatsBackSpec)) floatsBackUptoCard

/-- THE SECOND FORM's CARD OF 'rhizomelaw02.FloatsKeys'. -/
def floatsKeysUptoCard : Claim7 := { stood := { row := floatsKeysUptoRow, standIns := [], harness := (true, "c400378ab0e81c99644d9a5ea6e973df357fed609d7405c1b5c78b25f4038438"), looks := true }, kinds := [], alts := [], laidByText := true, laidKinds := [.data, .data, .widerDeep, .widerDeep, .data, .data, .data, .data, .data, .data, .sentinel, .sentinel, .pinned, .pinned, .pinned], laidTests := true, laidLooks := .later }
def FloatsKeysUptoCardSaid : Prop := Claim7.holds Tryz.pinned (.plain (OpenSpec.upto floatsKeysSpec)) floatsKeysUptoCard

/-- THE SECOND FORM's CARD OF 'rhizomelaw02.FloatsPlaces'. -/
def floatsPlacesUptoCard : Claim7 := { stood := { row := floatsPlacesUptoRow, standIns := [], harness := (true, "c400378ab0e81c99644d9a5ea6e973df357fed609d7405c1b5c78b25f4038438"), looks := true }, kinds := [], alts := [], laidByText := true, laidKinds := [.data, .data, .widerDeep, .widerDeep, .data, .data, .data, .data, .data, .data, .sentinel, .sentinel, .pinned, .pinned, .pinned], laidTests := true, laidLooks := .later }
def FloatsPlacesUptoCardSaid : Prop := Claim7.holds Tryz.pinned (.plain (OpenSpec.upto floatsPlacesSpec)) floatsPlacesUptoCard

/-- THE SECOND FORM's CARD OF 'rhizomelaw02.FloatsOfs'. -/
def floatsOfsUptoCard : Claim7 := { stood := { row := floatsOfsUptoRow, standIns := [], harness := (true, "c400378ab0e81c99644d9a5ea6e973df357fed609d7405c1b5c78b25f4038438"), looks := true }, kinds := [], alts := [], laidByText := true, laidKinds := [.data, .data, .widerDeep, .widerDeep, .data, .data, .data, .data, .data, .data, .sentinel, .sentinel, .pinned, .pinned, .pinned], laidTests := true, laidLooks := .later }
def FloatsOfsUptoCardSaid : Prop := Claim7.holds Tryz.pinned (.plain (OpenSpec.upto floatsOfsSpec)) floatsOfsUptoCard

/-- THE SECOND FORM's CARD OF 'rhizomelaw02.FloatsRise'. -/
def floatsRiseUptoCard : Claim7 := { stood := { row := floatsRiseUptoRow, standIns := [], harness := (true, "c400378ab0e81c99644d9a5ea6e973df357fed609d7405c1b5c78b25f4038438"), looks := true }, kinds := [], alts := [], laidByText := true, laidKinds := [.data, .data, .widerDeep, .widerDeep, .data, .data, .data, .data, .data, .data, .sentinel, .sentinel, .pinned, .pinned, .pinned], laidTests := true, laidLooks := .later }
def FloatsRiseUptoCardSaid : Prop := Claim7.holds Tryz.pinned (.plain (OpenSpec.upto floatsRiseSpec)) floatsRiseUptoCard

/-- THE SECOND FORM's CARD OF 'rhizomelaw02.FloatsShort'. -/
def floatsShortUptoCard : Claim7 := { stood := { row := floatsShortUptoRow, standIns := [], harness := (true, "c400378ab0e81c99644d9a5ea6e973df357fed609d7405c1b5c78b25f4038438"), looks := true }, kinds := [], alts := [], laidByText := true, laidKinds := [.data, .data, .widerDeep, .widerDeep, .data, .data, .data, .data, .data, .data, .sentinel, .sentinel, .pinned, .pinned, .pinned], laidTests := true, laidLooks := .later }
def FloatsShortUptoCardSaid : Prop := Claim7.holds Tryz.pinned (.plain (OpenSpec.upto floatsShortSpec)) floatsShortUptoCard

/-- THE SECOND FORM's CARD OF 'rhizomelaw02.FloatsNext'. -/
def floatsNextUptoCard : Claim7 := { stood := { row := floatsNextUptoRow, standIns := [], harness := (true, "c400378ab0e81c99644d9a5ea6e973df357fed609d7405c1b5c78b25f4038438"), looks := true }, kinds := [], alts := [], laidByText := true, laidKinds := [.data, .data, .widerDeep, .widerDeep, .data, .data, .data, .data, .data, .data, .sentinel, .sentinel, .pinned, .pinned, .pinned], laidTests := true, laidLooks := .later }
def FloatsNextUptoCardSaid : Prop := Claim7.holds Tryz.pinned (.plain (OpenSpec.upto floatsNextSpec)) floatsNextUptoCard
end Rows
end Go.Proofs.YtapinbbflfkglaaGreatDoor
