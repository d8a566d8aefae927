/-
  DERIVED. GIVEN WITH THE SEED: THE CARDS: each row of YthkcdoneghcglaaDoorRows.lean that lists a variable, with what it lists TIED to the program's text (the seventh form; the later family's looks); each row that meets fmt, with fmt's text TOLD by the authors' own Lean function (tested against real Go, not proved from fmt's source: count such statements apart). THE CARD IS WHAT COUNTS. Prove the row's statement (the work); the ties are given (YthkcdoneghcglaaDoorTie.lean); close each card by the builder's one call (the guide's Derived/Test/ToyasCard.lean, 'card_holds'). Laid BY PROGRAM, IN A SANDBOX (cutbox-door.mjs). By AI agents, Wed Nov 11 2026. No macro, syntax, notation, axiom, sorry.
-/
import Derived.Test.YthkcdoneghcglaaDoorRows
import GoSem.ClaimSeven
namespace Go.Proofs.YthkcdoneghcglaaDoor
namespace Rows

/-- THE TIED CARD OF 'tiercelaw41.ScrubExact'. -/
def scrubExactCard : Claim7 := { stood := { row := scrubExactRow, standIns := [], harness := (true, "af6e41dd0b290ccc0e0c284c8c53e74ec1be36f9f7fe2d01d732510ae8415a1f"), looks := true }, kinds := [], alts := [], laidByText := true, laidKinds := [.data, .data, .data, .data, .sentinel, .sentinel, .pinned], laidTests := true, laidLooks := .later }
def ScrubExactCardSaid : Prop := Claim7.holds Tryd.pinned (.plain (OpenSpec.ofChange scrubExactSpec)) scrubExactCard

/-- THE TIED CARD OF 'tiercelaw41.ScrubBack'. -/
def scrubBackCard : Claim7 := { stood := { row := scrubBackRow, standIns := [], harness := (true, "af6e41dd0b290ccc0e0c284c8c53e74ec1be36f9f7fe2d01d732510ae8415a1f"), looks := true }, kinds := [], alts := [], laidByText := true, laidKinds := [.data, .data, .data, .data, .sentinel, .sentinel, .pinned], laidTests := true, laidLooks := .later }
def ScrubBackCardSaid : Prop := Claim7.holds Tryd.pinned (.plain (OpenSpec.ofChange scrubBackSpec)) scrubBackCard

/-- THE TIED CARD OF 'tiercelaw32.BandExact'. -/
def bandExactCard : Claim7 := { stood := { row := bandExactRow, standIns := [], harness := (true, "af6e41dd0b290ccc0e0c284c8c53e74ec1be36f9f7fe2d01d732510ae8415a1f"), looks := true }, kinds := [], alts := [], laidByText := true, laidKinds := [.data, .data, .data, .data, .sentinel, .sentinel, .pinned], laidTests := true, laidLooks := .later }
def BandExactCardSaid : Prop := Claim7.holds Tryd.pinned (.plain (OpenSpec.ofChange bandExactSpec)) bandExactCard

/-- THE TIED CARD OF 'tiercelaw32.BandSets'. -/
def bandSetsCard : Claim7 := { stood := { row := bandSetsRow, standIns := [], harness := (true, "af6e41dd0b290ccc0e0c284c8c53e74ec1be36f9f7fe2d01d732510ae8415a1f"), looks := true }, kinds := [], alts := [], laidByText := true, laidKinds := [.data, .data, .data, .data, .sentinel, .sentinel, .pinned], laidTests := true, laidLooks := .later }
def BandSetsCardSaid : Prop := Claim7.holds Tryd.pinned (.plain (OpenSpec.ofChange bandSetsSpec)) bandSetsCard

/-- THE TIED CARD OF 'tiercelaw32.BandBack'. -/
def bandBackCard : Claim7 := { stood := { row := bandBackRow, standIns := [], harness := (true, "af6e41dd0b290ccc0e0c284c8c53e74ec1be36f9f7fe2d01d732510ae8415a1f"), looks := true }, kinds := [], alts := [], laidByText := true, laidKinds := [.data, .data, .data, .data, .sentinel, .sentinel, .pinned], laidTests := true, laidLooks := .later }
def BandBackCardSaid : Prop := Claim7.holds Tryd.pinned (.plain (OpenSpec.ofChange bandBackSpec)) bandBackCard

/-- THE SECOND FORM's CARD OF 'tiercelaw41.ScrubExact'. -/
def scrubExactUptoCard : Claim7 := { stood := { row := scrubExactUptoRow, standIns := [], harness := (true, "af6e41dd0b290ccc0e0c284c8c53e74ec1be36f9f7fe2d01d732510ae8415a1f"), looks := true }, kinds := [], alts := [], laidByText := true, laidKinds := [.data, .data, .data, .data, .sentinel, .sentinel, .pinned], laidTests := true, laidLooks := .later }
def ScrubExactUptoCardSaid : Prop := Claim7.holds Tryd.pinned (.plain (OpenSpec.upto scrubExactSpec)) scrubExactUptoCard

/-- THE SECOND FORM's CARD OF 'tiercelaw41.ScrubBack'. -/
def scrubBackUptoCard : Claim7 := { stood := { row := scrubBackUptoRow, standIns := [], harness := (true, "af6e41dd0b290ccc0e0c284c8c53e74ec1be36f9f7fe2d01d732510ae8415a1f"), looks := true }, kinds := [], alts := [], laidByText := true, laidKinds := [.data, .data, .data, .data, .sentinel, .sentinel, .pinned], laidTests := true, laidLooks := .later }
def ScrubBackUptoCardSaid : Prop := Claim7.holds Tryd.pinned (.plain (OpenSpec.upto scrubBackSpec)) scrubBackUptoCard

/-- THE SECOND FORM's CARD OF 'tiercelaw32.BandExact'. -/
def bandExactUptoCard : Claim7 := { stood := { row := bandExactUptoRow, standIns := [], harness := (true, "af6e41dd0b290ccc0e0c284c8c53e74ec1be36f9f7fe2d01d732510ae8415a1f"), looks := true }, kinds := [], alts := [], laidByText := true, laidKinds := [.data, .data, .data, .data, .sentinel, .sentinel, .pinned], laidTests := true, laidLooks := .later }
def BandExactUptoCardSaid : Prop := Claim7.holds Tryd.pinned (.plain (OpenSpec.upto bandExactSpec)) bandExactUptoCard

/-- THE SECOND FORM's CARD OF 'tiercelaw32.BandSets'. -/
def bandSetsUptoCard : Claim7 := { stood := { row := bandSetsUptoRow, standIns := [], harness := (true, "af6e41dd0b290ccc0e0c284c8c53e74ec1be36f9f7fe2d01d732510ae8415a1f"), looks := true }, kinds := [], alts := [], laidByText := true, laidKinds := [.data, .data, .data, .data, .sentinel, .sentinel, .pinned], laidTests := true, laidLooks := .later }
def BandSetsUptoCardSaid : Prop := Claim7.holds Tryd.pinned (.plain (OpenSpec.upto bandSetsSpec)) bandSetsUptoCard

/-- THE SECOND FORM's CARD OF 'tiercelaw32.BandBack'. -/
def bandBackUptoCard : Claim7 := { stood := { row := bandBackUptoRow, standIns := [], harness := (true, "af6e41dd0b290ccc0e0c284c8c53e74ec1be36f9f7fe2d01d732510ae8415a1f"), looks := true }, kinds := [], alts := [], laidByText := true, laidKinds := [.data, .data, .data, .data, .sentinel, .sentinel, .pinned], laidTests := true, laidLooks := .later }
def BandBackUptoCardSaid : Prop := Claim7.holds Tryd.pinned (.plain (OpenSpec.upto bandBackSpec)) bandBackUptoCard
end Rows
end Go.Proofs.YthkcdoneghcglaaDoor
