/-
  DERIVED. GIVEN WITH THE SEED: THE CARDS: each row of YtheecdjpbfkpdaaDoorRows.lean that lists a variable, with what it lists TIED to the program's text (the seventh form; the later family's looks); each row that meets fmt, with fmt's text TOLD by the authors' own Lean function (tested against real Go, not proved from fmt's source: count such statements apart). THE CARD IS WHAT COUNTS. Prove the row's statement (the work); the ties are given (YtheecdjpbfkpdaaDoorTie.lean); close each card by the builder's one call (the guide's Derived/Test/ToyasCard.lean, 'card_holds'). Laid BY PROGRAM, IN A SANDBOX (cutbox-door.mjs). By AI agents, Wed Nov 11 2026. No macro, syntax, notation, axiom, sorry.
-/
import Derived.Test.YtheecdjpbfkpdaaDoorRows
import GoSem.ClaimSeven
namespace Go.Proofs.YtheecdjpbfkpdaaDoor
namespace Rows

/-- THE TIED CARD OF 'kissinggatelaw21.DriverTold'. -/
def driverToldCard : Claim7 := { stood := { row := driverToldRow, standIns := [], harness := (true, "bf705e6cd6af65afab013f836485e5fc88afd2d10648d166a234b3c753239915"), looks := true }, kinds := [], alts := [], laidByText := true, laidKinds := [.data, .data, .data, .sentinel, .sentinel], laidTests := true, laidLooks := .later }
def DriverToldCardSaid : Prop := Claim7.holds Tryd.pinned (.plain (OpenSpec.ofChange driverToldSpec)) driverToldCard

/-- THE TIED CARD OF 'kissinggatelaw21.DriverPlays'. -/
def driverPlaysCard : Claim7 := { stood := { row := driverPlaysRow, standIns := [], harness := (true, "bf705e6cd6af65afab013f836485e5fc88afd2d10648d166a234b3c753239915"), looks := true }, kinds := [], alts := [], laidByText := true, laidKinds := [.data, .data, .data, .sentinel, .sentinel], laidTests := true, laidLooks := .later }
def DriverPlaysCardSaid : Prop := Claim7.holds Tryd.pinned (.plain (OpenSpec.ofChange driverPlaysSpec)) driverPlaysCard

/-- THE SECOND FORM's CARD OF 'kissinggatelaw21.DriverTold'. -/
def driverToldUptoCard : Claim7 := { stood := { row := driverToldUptoRow, standIns := [], harness := (true, "bf705e6cd6af65afab013f836485e5fc88afd2d10648d166a234b3c753239915"), looks := true }, kinds := [], alts := [], laidByText := true, laidKinds := [.data, .data, .data, .sentinel, .sentinel], laidTests := true, laidLooks := .later }
def DriverToldUptoCardSaid : Prop := Claim7.holds Tryd.pinned (.plain (OpenSpec.upto driverToldSpec)) driverToldUptoCard

/-- THE SECOND FORM's CARD OF 'kissinggatelaw21.DriverPlays'. -/
def driverPlaysUptoCard : Claim7 := { stood := { row := driverPlaysUptoRow, standIns := [], harness := (true, "bf705e6cd6af65afab013f836485e5fc88afd2d10648d166a234b3c753239915"), looks := true }, kinds := [], alts := [], laidByText := true, laidKinds := [.data, .data, .data, .sentinel, .sentinel], laidTests := true, laidLooks := .later }
def DriverPlaysUptoCardSaid : Prop := Claim7.holds Tryd.pinned (.plain (OpenSpec.upto driverPlaysSpec)) driverPlaysUptoCard
end Rows
end Go.Proofs.YtheecdjpbfkpdaaDoor
